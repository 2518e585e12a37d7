/- Joined: Plain laws on numbers: what Zig, Zag, Log, Turn come to. No program in sight. Slices of numbers as the walk reads them: 'RdAt k w a n c l': the slice (a, n, c) reads in w as the numbers l. No program in sight. append on rows of numbers that the call owns, in the walk's form. No program in sight. The closed facts of this program's tables on []byte. Plain laws on bits of bytes: Field, Get. No program in sight. Contracts of ints.ReadVar and of the reference's. What a reader of records tells: plain laws. No program in sight. Contracts of ints.Zig, Zag and of the references'. The contract of slices.Clone at bytes. -/
import Derived.WalkKit
import Derived.Lib.Hide
import Derived.Maps.AppendAt
import Derived.Deep.RegionHeld3
import Derived.Test.YtcbnebcooiagmaaProg
import Derived.ProofKit
import Derived.WalkSpells
namespace Go.Proofs.Ytcbnebcooiagmaa
open Go.RowKit

theorem ret_int {k : IntKind} {a b : Int} (h : a = b) : Ending.returned (.int k a) = .returned (.int k b) := by rw [h]
theorem ret_bool {a b : Bool} (h : a = b) : Ending.returned (.bool a) = .returned (.bool b) := by rw [h]

theorem wrap_i64' (n : Int) : IntKind.i64.wrap n = wrap64 n := IntWalk.i64_left n
theorem wrap_u64' (n : Int) : IntKind.u64.wrap n = n % 18446744073709551616 := IntKind.wrap_u64 n

def zigI (v : Int) : Int := if v < 0 then 2 * -(v + 1) + 1 else 2 * v
def zagI (u : Int) : Int := if u % 2 = 1 then -(u / 2) - 1 else u / 2

theorem zag_zig (v : Int) : zagI (zigI v) = v := by unfold zagI zigI; split <;> split <;> omega
theorem zig_zag (u : Int) (h : 0 ≤ u) : zigI (zagI u) = u := by unfold zagI zigI; split <;> split <;> omega
theorem zigI_bd (v : Int) (h1 : -9223372036854775808 ≤ v) (h2 : v ≤ 9223372036854775807) : 0 ≤ zigI v ∧ zigI v ≤ 18446744073709551615 := by
  unfold zigI; split <;> omega
theorem zagI_bd (v : Int) (h1 : 0 ≤ v) (h2 : v ≤ 18446744073709551615) : -9223372036854775808 ≤ zagI v ∧ zagI v ≤ 9223372036854775807 := by
  unfold zagI; split <;> omega

theorem ofInt64_toNat (x : Int) : ((BitVec.ofInt 64 x).toNat : Int) = x % 18446744073709551616 := by
  rw [BitVec.toNat_ofInt]; have : (0:Int) ≤ x % 18446744073709551616 := Int.emod_nonneg _ (by omega)
  omega

theorem xor_ones64 (x : BitVec 64) : x ^^^ BitVec.ofInt 64 (-1) = ~~~ x := by
  rw [show BitVec.ofInt 64 (-1) = BitVec.allOnes 64 from by decide, BitVec.xor_allOnes]

theorem u64_xor_ones (x : Int) (h1 : 0 ≤ x) (h2 : x ≤ 18446744073709551615) : bits .xor .u64 x 18446744073709551615 = 18446744073709551615 - x := by
  show IntKind.u64.wrap ((BitVec.ofInt 64 x ^^^ BitVec.ofInt 64 18446744073709551615).toNat : Int) = _
  rw [show BitVec.ofInt 64 18446744073709551615 = BitVec.allOnes 64 from by decide, BitVec.xor_allOnes, BitVec.toNat_not, IntKind.wrap_u64]
  have := ofInt64_toNat x
  omega
theorem u64_xor_zero (x : Int) (h1 : 0 ≤ x) (h2 : x ≤ 18446744073709551615) : bits .xor .u64 x 0 = x := by
  show IntKind.u64.wrap ((BitVec.ofInt 64 x ^^^ BitVec.ofInt 64 0).toNat : Int) = _
  rw [show BitVec.ofInt 64 0 = 0#64 from by decide, BitVec.xor_zero, IntKind.wrap_u64]
  have := ofInt64_toNat x
  omega
theorem i64_xor_ones (x : Int) (h1 : 0 ≤ x) (h2 : x ≤ 9223372036854775807) : bits .xor .i64 x (-1) = -x - 1 := by
  show IntKind.i64.wrap ((BitVec.ofInt 64 x ^^^ BitVec.ofInt 64 (-1)).toNat : Int) = _
  rw [xor_ones64, BitVec.toNat_not, IntKind.wrap_i64]
  have := ofInt64_toNat x
  omega
theorem i64_xor_zero (x : Int) (h1 : 0 ≤ x) (h2 : x ≤ 9223372036854775807) : bits .xor .i64 x 0 = x := by
  show IntKind.i64.wrap ((BitVec.ofInt 64 x ^^^ BitVec.ofInt 64 0).toNat : Int) = _
  rw [show BitVec.ofInt 64 0 = 0#64 from by decide, BitVec.xor_zero, IntKind.wrap_i64]
  have := ofInt64_toNat x
  omega
theorem u64_and_one (x : Int) (h1 : 0 ≤ x) (h2 : x ≤ 18446744073709551615) : bits .and .u64 x 1 = x % 2 := by
  rw [u64_and x 1 h1 (by omega) (by omega) (by omega)]
  rw [show (1 : Int).toNat = 1 from rfl, Nat.and_one_is_mod]; omega

theorem zig_go (v : Int) (h1 : -9223372036854775808 ≤ v) (h2 : v ≤ 9223372036854775807) :
    bits BinOp.xor IntKind.u64 (IntKind.u64.wrap (IntKind.u64.wrap v * 2)) (IntKind.u64.wrap (v / 9223372036854775808)) = zigI v := by
  unfold zigI
  split
  · have e1 : IntKind.u64.wrap (v / 9223372036854775808) = 18446744073709551615 := by rw [IntKind.wrap_u64]; omega
    have e2 : IntKind.u64.wrap (IntKind.u64.wrap v * 2) = 2 * v + 18446744073709551616 := by rw [IntKind.wrap_u64, IntKind.wrap_u64]; omega
    rw [e1, e2, u64_xor_ones _ (by omega) (by omega)]; omega
  · have e1 : IntKind.u64.wrap (v / 9223372036854775808) = 0 := by rw [IntKind.wrap_u64]; omega
    have e2 : IntKind.u64.wrap (IntKind.u64.wrap v * 2) = 2 * v := by rw [IntKind.wrap_u64, IntKind.wrap_u64]; omega
    rw [e1, e2, u64_xor_zero _ (by omega) (by omega)]
theorem zag_go (v : Int) (h1 : 0 ≤ v) (h2 : v ≤ 18446744073709551615) :
    bits BinOp.xor IntKind.i64 (v / 2) (wrap64 (-wrap64 (bits BinOp.and IntKind.u64 v 1))) = zagI v := by
  rw [u64_and_one v h1 h2]; unfold zagI
  split
  · rename_i h; rw [h, show wrap64 (-wrap64 1) = -1 from by unfold wrap64; decide, i64_xor_ones _ (by omega) (by omega)]
  · have h : v % 2 = 0 := by omega
    rw [h, show wrap64 (-wrap64 0) = 0 from by unfold wrap64; decide, i64_xor_zero _ (by omega) (by omega)]

/-- How many bits a number has (at most f). -/
def logF : Nat → Int → Int
  | 0, _ => 0
  | f + 1, v => if 0 < v then logF f (v / 2) + 1 else 0
theorem logF_bd (f : Nat) : ∀ v, 0 ≤ logF f v ∧ logF f v ≤ f := by
  induction f with
  | zero => intro v; simp [logF]
  | succ f ih => intro v; have := ih (v / 2); unfold logF; split <;> omega
theorem logF_step (f : Nat) (v : Int) (h : 0 < v) : logF (f + 1) v = logF f (v / 2) + 1 := by rw [logF, if_pos h]
theorem logF_nil (f : Nat) (v : Int) (h : v ≤ 0) : logF f v = 0 := by cases f with | zero => rfl | succ f => rw [logF, if_neg (by omega)]

/-- The bytes of v, the first k turned. -/
def turnK (v : Int) : Nat → Int
  | 0 => 0
  | k + 1 => turnK v k * 256 + v / 2 ^ (8 * k) % 256
theorem turnK_bd (v : Int) (k : Nat) : 0 ≤ turnK v k ∧ turnK v k < 2 ^ (8 * k) := by
  induction k with
  | zero => simp [turnK]
  | succ k ih =>
    have e : (2 : Int) ^ (8 * (k + 1)) = 2 ^ (8 * k) * 256 := by rw [Nat.mul_add, Int.pow_add]; rfl
    have h0 : 0 ≤ v / 2 ^ (8 * k) % 256 := Int.emod_nonneg _ (by omega)
    have h1 : v / 2 ^ (8 * k) % 256 < 256 := Int.emod_lt_of_pos _ (by omega)
    unfold turnK; rw [e]; omega
theorem u64_and_mask (x : Int) (i : Nat) (hi : i ≤ 64) (h1 : 0 ≤ x) (h2 : x ≤ 18446744073709551615) : bits .and .u64 x (2 ^ i - 1) = x % 2 ^ i := by
  have hp : (2 : Int) ^ i ≤ 2 ^ 64 := by exact_mod_cast Nat.pow_le_pow_right (by decide) hi
  have hp1 : (1 : Int) ≤ 2 ^ i := by exact_mod_cast Nat.one_le_two_pow
  obtain ⟨a, rfl⟩ := Int.eq_ofNat_of_zero_le h1
  rw [u64_and _ _ h1 (by omega) (by omega) (by omega)]
  have e : ((2 : Int) ^ i - 1).toNat = 2 ^ i - 1 := by
    have : ((2 : Int) ^ i) = ((2 ^ i : Nat) : Int) := by simp
    omega
  rw [e, Int.toNat_natCast, Nat.and_two_pow_sub_one_eq_mod]
  simp
theorem u64_and_255 (x : Int) (h1 : 0 ≤ x) (h2 : x ≤ 18446744073709551615) : bits .and .u64 x 255 = x % 256 := u64_and_mask x 8 (by decide) h1 h2
theorem u64_join (x y : Int) (i : Nat) (h1 : 0 ≤ x) (h2 : x ≤ 18446744073709551615) (h3 : 0 ≤ y) (h4 : y ≤ 18446744073709551615) (hx : x % 2 ^ i = 0) (hy : y < 2 ^ i) :
    bits .or .u64 x y = x + y := by
  obtain ⟨a, rfl⟩ := Int.eq_ofNat_of_zero_le h1
  obtain ⟨b, rfl⟩ := Int.eq_ofNat_of_zero_le h3
  rw [u64_or _ _ h1 (by omega) h3 (by omega), Int.toNat_natCast, Int.toNat_natCast]
  rw [nat_join i a b (by exact_mod_cast hx) (by exact_mod_cast hy)]
  simp
theorem pow_le_of {a b : Nat} (h : a ≤ b) : (2 : Int) ^ a ≤ 2 ^ b := by exact_mod_cast Nat.pow_le_pow_right (by decide) h
theorem div_bd (v : Int) (n : Nat) (h1 : 0 ≤ v) : 0 ≤ v / 2 ^ n ∧ v / 2 ^ n ≤ v :=
  ⟨Int.ediv_nonneg h1 (Int.pow_nonneg (by decide)), Int.ediv_le_self _ h1⟩
theorem turnK_small (v : Int) (k : Nat) (hk : k < 8) : 0 ≤ turnK v k ∧ turnK v k ≤ 72057594037927935 := by
  have hb := turnK_bd v k
  have := pow_le_of (show 8 * k ≤ 56 by omega)
  omega
theorem turn_go (v : Int) (k : Nat) (hk : k < 8) (h1 : 0 ≤ v) (h2 : v ≤ 18446744073709551615) :
    bits BinOp.or IntKind.u64 (IntKind.u64.wrap (turnK v k * 256)) (bits BinOp.and IntKind.u64 (v / 2 ^ (8 * k)) 255) = turnK v (k + 1) := by
  have hb := turnK_small v k hk
  have hd := div_bd v (8 * k) h1
  rw [u64_and_255 _ hd.1 (by omega), IntWalk.u64_in _ (by omega), u64_join _ _ 8 (by omega) (by omega) (by omega) (by omega) (by omega) (by omega)]
  rfl
theorem turn_ref (v : Int) (k : Nat) : v / 2 ^ (8 * k) / 256 = v / 2 ^ (8 * (k + 1)) := by
  rw [Int.ediv_ediv_of_nonneg (Int.pow_nonneg (by decide)), show 8 * (k + 1) = 8 * k + 8 from rfl, Int.pow_add]; rfl
theorem dig (v : Int) (n m : Nat) (h : m = n + 8) : v / 2 ^ n = v / 2 ^ n % 256 + 256 * (v / 2 ^ m) := by
  subst h
  rw [Int.pow_add, ← Int.ediv_ediv_of_nonneg (Int.pow_nonneg (by decide)), show (2 : Int) ^ 8 = 256 from rfl]; omega
theorem turn_turn (v : Int) (h1 : 0 ≤ v) (h2 : v ≤ 18446744073709551615) : turnK (turnK v 8) 8 = v := by
  obtain ⟨b0, hb0⟩ : ∃ x, x = v % 256 := ⟨_, rfl⟩
  obtain ⟨b1, hb1⟩ : ∃ x, x = v / 2 ^ 8 % 256 := ⟨_, rfl⟩
  obtain ⟨b2, hb2⟩ : ∃ x, x = v / 2 ^ 16 % 256 := ⟨_, rfl⟩
  obtain ⟨b3, hb3⟩ : ∃ x, x = v / 2 ^ 24 % 256 := ⟨_, rfl⟩
  obtain ⟨b4, hb4⟩ : ∃ x, x = v / 2 ^ 32 % 256 := ⟨_, rfl⟩
  obtain ⟨b5, hb5⟩ : ∃ x, x = v / 2 ^ 40 % 256 := ⟨_, rfl⟩
  obtain ⟨b6, hb6⟩ : ∃ x, x = v / 2 ^ 48 % 256 := ⟨_, rfl⟩
  obtain ⟨b7, hb7⟩ : ∃ x, x = v / 2 ^ 56 % 256 := ⟨_, rfl⟩
  have hv : v = b0 + 256 * (b1 + 256 * (b2 + 256 * (b3 + 256 * (b4 + 256 * (b5 + 256 * (b6 + 256 * b7)))))) := by
    have s0 := dig v 0 8 rfl
    have s1 := dig v 8 16 rfl
    have s2 := dig v 16 24 rfl
    have s3 := dig v 24 32 rfl
    have s4 := dig v 32 40 rfl
    have s5 := dig v 40 48 rfl
    have s6 := dig v 48 56 rfl
    have s7 := dig v 56 64 rfl
    have s8 : v / 2 ^ 64 = 0 := Int.ediv_eq_zero_of_lt h1 (by omega)
    rw [Int.pow_zero, Int.ediv_one] at s0
    rw [← hb0] at s0; rw [← hb1] at s1; rw [← hb2] at s2; rw [← hb3] at s3; rw [← hb4] at s4; rw [← hb5] at s5; rw [← hb6] at s6; rw [← hb7, s8] at s7
    rw [s7] at s6; rw [s6] at s5; rw [s5] at s4; rw [s4] at s3; rw [s3] at s2; rw [s2] at s1; rw [s1] at s0
    clear hb0 hb1 hb2 hb3 hb4 hb5 hb6 hb7 s1 s2 s3 s4 s5 s6 s7 s8
    omega
  have e : turnK v 8 = b7 + 256 * (b6 + 256 * (b5 + 256 * (b4 + 256 * (b3 + 256 * (b2 + 256 * (b1 + 256 * b0)))))) := by
    simp only [turnK, Nat.mul_zero, Nat.mul_one, Nat.reduceMul, Int.pow_zero, Int.ediv_one, ← hb0, ← hb1, ← hb2, ← hb3, ← hb4, ← hb5, ← hb6, ← hb7]
    omega
  have q0 : 0 ≤ b0 ∧ b0 < 256 := by omega
  have q1 : 0 ≤ b1 ∧ b1 < 256 := by omega
  have q2 : 0 ≤ b2 ∧ b2 < 256 := by omega
  have q3 : 0 ≤ b3 ∧ b3 < 256 := by omega
  have q4 : 0 ≤ b4 ∧ b4 < 256 := by omega
  have q5 : 0 ≤ b5 ∧ b5 < 256 := by omega
  have q6 : 0 ≤ b6 ∧ b6 < 256 := by omega
  have q7 : 0 ≤ b7 ∧ b7 < 256 := by omega
  rw [e, hv]
  clear hb0 hb1 hb2 hb3 hb4 hb5 hb6 hb7 e hv h1 h2
  simp only [turnK, Nat.mul_zero, Nat.mul_one, Nat.reduceMul, Int.pow_zero, Int.ediv_one, Int.reducePow]
  omega
end Go.Proofs.Ytcbnebcooiagmaa
namespace Go.Proofs.Ytcbnebcooiagmaa
open Go.RowKit

def nth (l : List Int) (i : Nat) : Int := l.getD i 0

theorem nth_eq {l : List Int} {i : Nat} (h : i < l.length) : nth l i = l[i] := by simp [nth, List.getD, h]
theorem nth_out {l : List Int} {i : Nat} (h : l.length ≤ i) : nth l i = 0 := by simp [nth, List.getD, h]

structure RdAt (k : IntKind) (w : World) (a : Option Addr) (n c : Nat) (l : List Int) : Prop where
  len : l.length = n
  cap : n ≤ c
  max : c ≤ maxLen
  cell : ∀ i, i < n → ∃ b o, a = some ⟨b, o, none⟩ ∧ w.cell? ⟨b, o + i, none⟩ = some (.int k (nth l i))
  wf : ∀ x ∈ l, (Lit.int k x).wf = true
  void : a = none → c = 0

theorem RdAt.wfAt {k : IntKind} {w : World} {a : Option Addr} {n c : Nat} {l : List Int} (h : RdAt k w a n c l) (i : Nat) (hi : i < n) : (Lit.int k (nth l i)).wf = true := by
  have hl := h.len
  apply h.wf
  rw [nth_eq (by omega)]
  exact List.getElem_mem _

theorem wf_u8_bd {x : Int} (h : (Lit.int .u8 x).wf = true) : 0 ≤ x ∧ x ≤ 255 := by
  simp [Lit.wf, IntKind.min, IntKind.max, IntKind.signed, IntKind.bits] at h; omega
theorem wf_i64_bd {x : Int} (h : (Lit.int .i64 x).wf = true) : -9223372036854775808 ≤ x ∧ x ≤ 9223372036854775807 := by
  simp [Lit.wf, IntKind.min, IntKind.max, IntKind.signed, IntKind.bits] at h; omega
theorem wf_u64_bd {x : Int} (h : (Lit.int .u64 x).wf = true) : 0 ≤ x ∧ x ≤ 18446744073709551615 := by
  simp [Lit.wf, IntKind.min, IntKind.max, IntKind.signed, IntKind.bits] at h; omega
theorem wf_u32_bd {x : Int} (h : (Lit.int .u32 x).wf = true) : 0 ≤ x ∧ x ≤ 4294967295 := by
  simp [Lit.wf, IntKind.min, IntKind.max, IntKind.signed, IntKind.bits] at h; omega

theorem RdAt.byte {w : World} {a : Option Addr} {n c : Nat} {l : List Int} (h : RdAt .u8 w a n c l) (i : Nat) (hi : i < n) : 0 ≤ nth l i ∧ nth l i ≤ 255 := wf_u8_bd (h.wfAt i hi)

theorem RdAt.below {k : IntKind} {w w' : World} {a : Option Addr} {n c : Nat} {l : List Int} (h : RdAt k w a n c l) (hb : Below w.heap.size w w') : RdAt k w' a n c l :=
  ⟨h.len, h.cap, h.max, fun i hi => by
    obtain ⟨b, o, e, hc⟩ := h.cell i hi
    have hlt : b < w.heap.size := block_lt_of_cell hc
    exact ⟨b, o, e, by rw [hb.cell hlt]; exact hc⟩, h.wf, h.void⟩

theorem RdAt.nil (k : IntKind) (w : World) : RdAt k w none 0 0 [] := ⟨rfl, Nat.le_refl _, by unfold maxLen; omega, fun i hi => by omega, by simp, fun _ => rfl⟩

/-- What the call owns reads so. -/
theorem RdAt.owned {k : IntKind} {w : World} {base : Nat} {e : TypeId} {a : Option Addr} {n c : Nat} {l : List Int} (h : w.ownsRow base e 1 (.slice a n c) n (l.map (Value.int k))) (hw : ∀ x ∈ l, (Lit.int k x).wf = true) : RdAt k w a n c l := by
  have hl : l.length = n := by have := h.1; simpa using this
  rcases h.2 with ⟨hv, hn⟩ | ⟨g, cap, cur, hv, _, hh, hnc, hcm, hcs, htake⟩
  · injection hv with h1 h2 h3
    subst h1 h2 h3
    exact ⟨hl, Nat.le_refl _, by unfold maxLen; omega, fun i hi => by omega, hw, fun _ => rfl⟩
  · injection hv with h1 h2 h3
    subst h1 h3
    refine ⟨hl, hnc, hcm, fun i hi => ⟨g, 0, rfl, ?_⟩, hw, fun e => by cases e⟩
    have hc := World.ownsRow.cellAt h i (by omega)
    rw [Nat.zero_add, hc]
    rw [List.getElem?_map, List.getElem?_eq_getElem (by omega), nth_eq (by omega)]
    rfl
theorem wf_mod8 (x : Int) : (Lit.int .u8 (x % 256)).wf = true := WalkArith.wf_u8 (by omega)
theorem wf_mod32 (x : Int) : (Lit.int .u32 (x % 4294967296)).wf = true := WalkArith.wf_u32 (by omega)
/-- string(b): the bytes as a string. -/
theorem conv_rd {P : Program} {src dst e : TypeId} (hs : P.underlying src = some (.slice e)) (he : P.underlying e = some (.int .u8)) (hd : P.underlying dst = some .string)
    {w : World} {a : Option Addr} {n c : Nat} {l : List Int} (h : RdAt .u8 w a n c l) : (convert src dst (.slice a n c)).run P w = .ok (.string (strOfNums l)) w := by
  have hlen := h.len
  cases a with
  | none =>
    have hn : n = 0 := by
      cases n with
      | zero => rfl
      | succ n => obtain ⟨_, _, h', _⟩ := h.cell 0 (by omega); cases h'
    subst hn
    obtain rfl : l = [] := List.eq_nil_of_length_eq_zero hlen
    exact run_convert_bytes_nil w src e hs he 0 c dst hd
  | some ad =>
    by_cases hn : n = 0
    · subst hn
      obtain rfl : l = [] := List.eq_nil_of_length_eq_zero hlen
      rw [run_convert_bytes_string w src dst e _ 0 c hs he hd, run_bytesToString w _ 0 c [] (by simp [loadCells, loadCellsFrom])]
      rfl
    · obtain ⟨b, o, e1, _⟩ := h.cell 0 (by omega)
      injection e1 with e1
      subst e1
      refine run_convert_bytes_arg w src e hs he b o n c l hlen (fun i hi => ?_) dst hd
      obtain ⟨b', o', e2, hc⟩ := h.cell i hi
      injection e2 with e2
      injection e2 with e2 e3
      subst e2 e3
      exact hc
/-- A slice of numbers as the row's reading gives it. -/
theorem RdAt.of_row {k : IntKind} {w : World} {x : Addr} {len cap : Nat} {zs : List Int} (hl : len ≤ cap) (hm : cap ≤ maxLen) (hz : zs.length = cap)
    (hcell : ∀ i, i < zs.length → w.cell? (x.add i) = some (.int k (zs.getD i 0))) (hwz : ∀ n ∈ zs, (Lit.int k n).wf = true) : RdAt k w (some x) len cap (zs.take len) := by
  refine ⟨by simp; omega, hl, hm, fun i hi => ?_, fun n hn => hwz n (List.mem_of_mem_take hn), fun h => by cases h⟩
  obtain ⟨b, o, sp⟩ := x
  have h0 := hcell 0 (by omega)
  have hsp : sp = none := by simpa [Addr.add] using World.cell?_spot h0
  subst hsp
  refine ⟨b, o, rfl, ?_⟩
  have h1 := hcell i (by omega)
  rw [Addr.add_lit] at h1
  rw [h1]
  unfold nth
  simp [List.getD, hi]
theorem RdAt.alloc {k : IntKind} {w : World} {a : Option Addr} {n c : Nat} {l : List Int} (h : RdAt k w a n c l) (o : Obj) : RdAt k (w.alloc o) a n c l := h.below ((Below.refl _ _).alloc (Nat.le_refl _) o)
end Go.Proofs.Ytcbnebcooiagmaa
namespace Go.Proofs.Ytcbnebcooiagmaa
open Go.RowKit

/-- The block that an append to the slice may write to: none where it has no room at all. -/
def room : Value → Option Nat
  | .slice (some a) _ c => if c = 0 then none else some a.block
  | _ => none
theorem room_some {v : Value} {g : Nat} (h : room v = some g) : v.ownBlock = some g := by
  unfold room at h
  split at h
  · split at h
    · cases h
    · exact h
  · cases h
theorem room_empty (a : Option Addr) (n : Nat) : room (.slice a n 0) = none := by cases a <;> simp [room]

/-- The call owns (from block base on) the slice v, whose elements are the numbers l: it has no room and no elements, or lies at the head of a row of its own. -/
def Owns (k : IntKind) (e : TypeId) (w : World) (base : Nat) (v : Value) (l : List Int) : Prop :=
  (∀ x ∈ l, (Lit.int k x).wf = true) ∧ ((l = [] ∧ ∃ a : Option Addr, v = .slice a 0 0 ∧ (∀ x, a = some x → x.spot = none)) ∨ w.ownsRow base e 1 v l.length (l.map (Value.int k)))

theorem Owns.shape {k : IntKind} {e : TypeId} {w : World} {base : Nat} {v : Value} {l : List Int} (h : Owns k e w base v l) : ∃ a c, v = .slice a l.length c := by
  rcases h.2 with ⟨rfl, a, hv, _⟩ | h2
  · exact ⟨a, 0, hv⟩
  · rcases h2.2 with ⟨hv, hn⟩ | ⟨g, cap, cur, hv, _⟩
    · exact ⟨none, 0, by rw [hv, hn]⟩
    · exact ⟨_, _, hv⟩
theorem Owns.shapeN {k : IntKind} {e : TypeId} {w : World} {base : Nat} {v : Value} {l : List Int} (h : Owns k e w base v l) (n : Nat) (hn : l.length = n) : ∃ a c, v = .slice a n c := by
  subst hn; exact h.shape
theorem Owns.rd {k : IntKind} {e : TypeId} {w : World} {base : Nat} {a : Option Addr} {n c : Nat} {l : List Int} (h : Owns k e w base (.slice a n c) l) : RdAt k w a n c l := by
  rcases h.2 with ⟨rfl, a', hv, _⟩ | h2
  · injection hv with h1 h2 h3
    subst h1 h2 h3
    exact ⟨rfl, Nat.le_refl _, by unfold maxLen; omega, fun i hi => by omega, by simp, fun _ => rfl⟩
  · obtain ⟨a', c', hv⟩ := h.shape
    injection hv with h1 h3 h4
    subst h3
    exact RdAt.owned h2 h.1
theorem Owns.nil (k : IntKind) (e : TypeId) (w : World) (base : Nat) : Owns k e w base (.slice none 0 0) [] := ⟨by simp, .inl ⟨rfl, none, rfl, fun _ h => by cases h⟩⟩
theorem Owns.empty (k : IntKind) (e : TypeId) (w : World) (base b o : Nat) : Owns k e w base (.slice (some ⟨b, o, none⟩) 0 0) [] := ⟨by simp, .inl ⟨rfl, _, rfl, fun x h => by injection h with h; rw [← h]⟩⟩
theorem Owns.alloc {k : IntKind} {e : TypeId} {w : World} {base : Nat} {v : Value} {l : List Int} (h : Owns k e w base v l) (o : Obj) : Owns k e (w.alloc o) base v l := ⟨h.1, h.2.imp id fun h2 => h2.alloc o⟩
theorem Owns.drew {k : IntKind} {e : TypeId} {w : World} {base : Nat} {v : Value} {l : List Int} (h : Owns k e w base v l) : Owns k e w.drew base v l := h
theorem Owns.mono {k : IntKind} {e : TypeId} {w : World} {base base' : Nat} {v : Value} {l : List Int} (h : Owns k e w base v l) (hb : base' ≤ base) : Owns k e w base' v l := by
  refine ⟨h.1, h.2.imp id fun h2 => ⟨h2.1, ?_⟩⟩
  rcases h2.2 with h3 | ⟨g, cap, cur, hv, hg, r⟩
  · exact .inl h3
  · exact .inr ⟨g, cap, cur, hv, by omega, r⟩
/-- What is owned stays owned while nothing that was there is written. -/
theorem Owns.below {k : IntKind} {e : TypeId} {w w' : World} {base : Nat} {v : Value} {l : List Int} (h : Owns k e w base v l) (hb : Below w.heap.size w w') : Owns k e w' base v l := by
  refine ⟨h.1, h.2.imp id fun h2 => ⟨h2.1, ?_⟩⟩
  rcases h2.2 with h3 | ⟨g, cap, cur, hv, hg, hh, r⟩
  · exact .inl h3
  · refine .inr ⟨g, cap, cur, hv, hg, ?_, r⟩
    rw [hb.block g (Array.getElem?_eq_some_iff.1 hh).1]; exact hh
theorem Owns.at_base {k : IntKind} {e : TypeId} {w : World} {base : Nat} {v : Value} {l : List Int} (h : Owns k e w base v l) : ∀ g, room v = some g → base ≤ g ∧ g < w.heap.size := by
  intro g hg
  rcases h.2 with ⟨_, a, hv, _⟩ | h2
  · rw [hv, room_empty] at hg; cases hg
  · exact h2.lt g (room_some hg)
/-- While an own row is written, another one stays. -/
theorem Owns.grown {k : IntKind} {e : TypeId} {w w' : World} {row : Option Nat} {base : Nat} {v : Value} {l : List Int} (h : Owns k e w base v l) (hg : w.grownBy w' row) (hne : ∀ g, room v = some g → some g ≠ row) : Owns k e w' base v l := by
  by_cases hr : room v = none
  · refine ⟨h.1, ?_⟩
    rcases h.2 with h2 | h2
    · exact .inl h2
    · rcases h2.2 with ⟨hv, hn⟩ | ⟨g, cap, cur, hv, hb, hh, hnc, hcm, hcs, ht⟩
      · exact .inl ⟨List.eq_nil_of_length_eq_zero hn, none, hv, fun _ h => by cases h⟩
      · have hc : cap = 0 := by
          subst hv
          unfold room at hr
          simp at hr
          exact hr
        subst hc
        have hl : l.length = 0 := by omega
        exact .inl ⟨List.eq_nil_of_length_eq_zero hl, _, by rw [hv, hl], fun x h => by injection h with h; rw [← h]⟩
  · obtain ⟨g, hgr⟩ := Option.ne_none_iff_exists'.1 hr
    exact ⟨h.1, h.2.imp id fun h2 => h2.kept hg (.inr (by rw [room_some hgr]; exact hne g hgr))⟩

/-- From w to w' the slice v has become v': nothing that was there has turned but the block that v had room in; v' has its room there or in a new block. -/
def Grows (w : World) (v : Value) (w' : World) (v' : Value) : Prop := w.grownBy w' (room v) ∧ (room v' = room v ∨ ∀ g, room v' = some g → w.heap.size ≤ g)
theorem Grows.refl (w : World) (v : Value) : Grows w v w v := ⟨⟨rfl, rfl, rfl, Nat.le_refl _, fun _ _ _ => rfl⟩, .inl rfl⟩
theorem Grows.trans {w w' w'' : World} {v v' v'' : Value} (h : Grows w v w' v') (k : Grows w' v' w'' v'') : Grows w v w'' v'' := by
  refine ⟨⟨k.1.os.trans h.1.os, k.1.tape.trans h.1.tape, k.1.output.trans h.1.output, Nat.le_trans h.1.size k.1.size, fun i hi hne => ?_⟩, ?_⟩
  · rw [k.1.block i (Nat.lt_of_lt_of_le hi h.1.size) ?_]
    · exact h.1.block i hi hne
    · rcases h.2 with e | e
      · rw [e]; exact hne
      · intro e'; have := e i e'.symm; omega
  · rcases k.2 with e | e
    · rw [e]; exact h.2
    · exact .inr fun g hg => Nat.le_trans h.1.size (e g hg)
theorem Grows.below {w w' : World} {v v' : Value} {base : Nat} (h : Grows w v w' v') (hb : base ≤ w.heap.size) (hv : ∀ g, room v = some g → base ≤ g) : Below base w w' :=
  (Below.refl base w).grown h.1 hb hv
theorem Grows.fromEmpty {w w1 : World} {v1 : Value} {o : Obj} {a : Option Addr} (h : Grows (w.alloc o) (.slice a 0 0) w1 v1) : Below w.heap.size w w1 :=
  ((Below.refl w.heap.size w).alloc (Nat.le_refl _) o).trans (h.below (by simp) (fun g hg => by rw [room_empty] at hg; cases hg))
/-- Behind an append to a slice without room all that was there is as it was. -/
theorem Grows.fromNone {w w1 : World} {a : Option Addr} {n : Nat} {v1 : Value} (h : Grows w (.slice a n 0) w1 v1) : Below w.heap.size w w1 :=
  h.below (Nat.le_refl _) (fun g hg => by rw [room_empty] at hg; cases hg)
/-- A slice elsewhere reads as it did. -/
theorem RdAt.grown {k : IntKind} {w w' : World} {row : Option Nat} {a : Option Addr} {n c : Nat} {l : List Int} (h : RdAt k w a n c l) (hg : w.grownBy w' row) (hne : ∀ x, a = some x → some x.block ≠ row) : RdAt k w' a n c l :=
  ⟨h.len, h.cap, h.max, fun i hi => by
    obtain ⟨b, o, e, hc⟩ := h.cell i hi
    exact ⟨b, o, e, hg.cell hc (show some b ≠ row from hne _ e)⟩, h.wf, h.void⟩

/-- While a row is written that lies behind all that was there at w0, what was read at w0 reads as it did. -/
theorem RdAt.apart {k : IntKind} {w0 w w' : World} {row : Option Nat} {a : Option Addr} {n c : Nat} {l : List Int} (h0 : RdAt k w0 a n c l) (h : RdAt k w a n c l) (hg : w.grownBy w' row) (hrow : ∀ g, row = some g → w0.heap.size ≤ g) : RdAt k w' a n c l :=
  ⟨h.len, h.cap, h.max, fun i hi => by
    obtain ⟨b, o, e, hc⟩ := h.cell i hi
    obtain ⟨b0, o0, e0, hc0⟩ := h0.cell i hi
    rw [e] at e0
    injection e0 with e0
    injection e0 with e1 e2
    subst e1 e2
    have hlt : b < w0.heap.size := block_lt_of_cell hc0
    exact ⟨b, o, e, hg.cell hc (fun hr => by have := hrow b hr.symm; omega)⟩, h.wf, h.void⟩
theorem Grows.newRoom {w w' : World} {a : Option Addr} {n : Nat} {v' : Value} (h : Grows w (.slice a n 0) w' v') : ∀ g, room v' = some g → w.heap.size ≤ g := by
  intro g hg
  rcases h.2 with e | e
  · rw [e, room_empty] at hg; cases hg
  · exact e g hg
/-- What holds below the heap's old size, handed on. -/
theorem Below.more {w W : World} (h : Below w.heap.size w W) (o : Obj) : Below w.heap.size w (W.alloc o) := h.alloc h.size o
theorem Below.call {w W W' : World} (h : Below w.heap.size w W) (k : Below W.heap.size W W') : Below w.heap.size w W' := h.trans (k.mono h.size)

def elemInfo (P : Program) (e : TypeId) (k : IntKind) (bytes : Nat) : Prop := (P.info? e).map (fun i => (i.zero, i.size, i.bytes)) = some (some (.int k 0), 1, bytes)

section
variable {P : Program} {k : IntKind} {T e bytes : Nat} {ops : Array Oper} {rest : List Oper} {o : Oper} {a : Act} {Q : Exit → Act → World → Prop}

/-- Nothing is appended: all is as it was. -/
theorem run_app_zero (hT : P.underlying T = some (.slice e)) (hI : elemInfo P e k bytes) (ty : TypeId) (w : World) (a0 : Option Addr) (m c0 : Nat) (hm : m ≤ c0) (b : Option Addr) (c : Nat) :
    (Builtin.append_ #[T, T] ty #[.slice a0 m c0, .slice b 0 c]).run P w = .ok (.slice a0 m c0) w := by
  obtain ⟨i, hi, hz0, hz1, hz2⟩ := info_parts hI
  cases a0 <;> cases b <;> simp [Builtin.append_, run_underlying hT, sizeOf, typeInfo, hi, Builtin.lenOf, Builtin.firstCells, loadCells, loadCellsFrom, storeCells, hm]

theorem cap_of_owns {w : World} {base : Nat} {a0 : Option Addr} {m c0 : Nat} {l : List Int} (h : Owns k e w base (.slice a0 m c0) l) : m ≤ c0 ∧ l.length = m :=
  ⟨h.rd.cap, h.rd.len⟩

/-- append of cells that lie at an address, to a slice that the call owns. -/
theorem run_app (hT : P.underlying T = some (.slice e)) (hI : elemInfo P e k bytes) (hby : bytes ≤ 8) (ty : TypeId) (w : World) (base : Nat) (v : Value) (l : List Int) (hown : Owns k e w base v l)
    (ad : Addr) (n c : Nat) (lb : List Int) (hl : lb.length = n) (hw : ∀ x ∈ lb, (Lit.int k x).wf = true) (hcell : ∀ j u, (lb.map (Value.int k))[j]? = some u → w.cell? (ad.add j) = some u) (hlen : l.length + n ≤ 1099511627776) (hbase : base ≤ w.heap.size) :
    ∃ v' w', (Builtin.append_ #[T, T] ty #[v, .slice (some ad) n c]).run P w = .ok v' w' ∧ Owns k e w' base v' (l ++ lb) ∧ Grows w v w' v' := by
  have hwf : ∀ z ∈ l ++ lb, (Lit.int k z).wf = true := by
    intro z hz
    rcases List.mem_append.1 hz with hz | hz
    · exact hown.1 z hz
    · exact hw z hz
  obtain ⟨a0, c0, rfl⟩ := hown.shape
  have hcap := (cap_of_owns hown).1
  by_cases hn : n = 0
  · subst hn
    obtain rfl : lb = [] := List.eq_nil_of_length_eq_zero hl
    exact ⟨_, _, run_app_zero hT hI ty w a0 _ c0 hcap (some ad) c, by simpa using hown, Grows.refl _ _⟩
  obtain ⟨i, hi, hz0, hz1, hz2⟩ := info_parts hI
  have hbb : (l.length + n) * bytes ≤ (l.length + n) * 8 := Nat.mul_le_mul_left _ hby
  by_cases hc : c0 = 0
  · subst hc
    obtain rfl : l = [] := List.eq_nil_of_length_eq_zero (by omega)
    have hgc := grownCap_ge w n 0 e
    have hown0 : ∀ (g : Nat) (hg : (w.drew.alloc (.cells (#[] ++ (lb.map (Value.int k)).toArray ++ Builtin.zeroCells (Value.int k 0).cells (grownCap w n 0 e - n)) e)).heap[g]? = some (.cells (#[] ++ (lb.map (Value.int k)).toArray ++ Builtin.zeroCells (Value.int k 0).cells (grownCap w n 0 e - n)) e)) (hgb : base ≤ g),
        (w.drew.alloc (.cells (#[] ++ (lb.map (Value.int k)).toArray ++ Builtin.zeroCells (Value.int k 0).cells (grownCap w n 0 e - n)) e)).ownsRow base e 1 (.slice (some ⟨g, 0, none⟩) n (grownCap w n 0 e)) lb.length (lb.map (Value.int k)) := by
      intro g hg hgb
      refine ⟨by simp, .inr ⟨g, _, _, by rw [hl], hgb, hg, by omega, grownCap_le_maxLen w n 0 e (by unfold maxLen; simp at hlen; omega), ?_, ?_⟩⟩
      · simp only [Array.size_append, List.size_toArray, size_zeroCells, List.length_map, hl]
        simp [Value.cells]; omega
      · simp [hl]
    cases a0 with
    | none =>
      have hrun := run_append_nil (P := P) w T ty e i (.int k 0) hT hi hz0 ad n c (lb.map (Value.int k)) (by simp [hl, hz1]) hcell (by omega) (by simp at hlen; omega) (by rw [hz2]; simp at hbb hlen; omega)
      refine ⟨_, _, hrun, ⟨by simpa using hw, .inr ?_⟩, ⟨⟨rfl, rfl, rfl, by simp, fun j hj _ => Below.heap_alloc w.drew _ j hj⟩, .inr fun g hg => ?_⟩⟩
      · simpa using hown0 w.heap.size (heap_alloc_new w.drew _) hbase
      · have := room_some hg
        simp [Value.ownBlock] at this
        omega
    | some g0 =>
      have hrun := run_append_grow (P := P) w T ty e i (.int k 0) hT hi hz0 g0 0 0 [] (by simp) (by simp) ad n c (lb.map (Value.int k)) (by simp [hl, hz1]) hcell (by omega) (by simp at hlen; omega) (growslice_fits (by omega) (by rw [hz2]; simp at hlen hbb ⊢; omega))
      rw [Nat.zero_add] at hrun
      refine ⟨_, _, hrun, ⟨by simpa using hw, .inr ?_⟩, ⟨⟨rfl, rfl, rfl, by simp, fun j hj _ => Below.heap_alloc w.drew _ j hj⟩, .inr fun g hg => ?_⟩⟩
      · simpa using hown0 w.heap.size (heap_alloc_new w.drew _) hbase
      · have := room_some hg
        simp [Value.ownBlock] at this
        omega
  · have hrow : w.ownsRow base e 1 (.slice a0 l.length c0) l.length (l.map (Value.int k)) := by
      rcases hown.2 with ⟨_, a1, hv, _⟩ | h2
      · injection hv with _ _ h3; exact absurd h3 hc
      · exact h2
    have hroom : room (.slice a0 l.length c0) = Value.ownBlock (.slice a0 l.length c0) := by
      cases a0 <;> simp [room, Value.ownBlock, hc]
    obtain ⟨v', w', hr', h1, h2, _, h4⟩ := run_append_own_at (P := P) w base T ty e i (.int k 0) 1 bytes hT hi hz0 hz1 hz2 rfl (by decide) _ l.length _ hrow ad n c (lb.map (Value.int k)) (by simp [hl]) hcell (ints_oneCell k lb) (by unfold maxLen; omega) (by omega) hbase
    refine ⟨v', w', hr', ⟨hwf, .inr (by simpa [hl] using h1)⟩, ⟨by rw [hroom]; exact h2, ?_⟩⟩
    by_cases hv' : room v' = none
    · exact .inr fun g hg => by rw [hv'] at hg; cases hg
    · obtain ⟨g, hgr⟩ := Option.ne_none_iff_exists'.1 hv'
      have hgo := room_some hgr
      rcases h4 with h4 | h4
      · exact .inl (by rw [hgr, hroom, ← h4, hgo])
      · exact .inr fun g' hg' => by rw [hgr] at hg'; injection hg' with hg'; rw [hgo] at h4; injection h4 with h4; omega

/-- append(s, x): one number; the walk has laid x into a new block of one cell. -/
theorem run_app_one (hT : P.underlying T = some (.slice e)) (hI : elemInfo P e k bytes) (hby : bytes ≤ 8) (ty : TypeId) (w : World) (base : Nat) (v : Value) (l : List Int) (hown : Owns k e w base v l)
    (q : Int) (hq : (Lit.int k q).wf = true) (hlen : l.length ≤ 1099511627775) (hbase : base ≤ w.heap.size) :
    ∃ v' w', (Builtin.append_ #[T, T] ty #[v, .slice (some ⟨w.heap.size, 0, none⟩) 1 1]).run P (w.alloc (.cells #[.int k q] e)) = .ok v' w' ∧ Owns k e w' base v' (l ++ [q]) ∧ Grows w v w' v' := by
  obtain ⟨v', w', hr, h1, h2, h4⟩ := run_app (P := P) hT hI hby ty (w.alloc (.cells #[.int k q] e)) base v l (hown.alloc _) ⟨w.heap.size, 0, none⟩ 1 1 [q] rfl (by simpa using hq) (by
      intro j u hu
      cases j with
      | zero => simp at hu; subst hu; rw [Addr.add_lit]; simp
      | succ j => simp at hu) (by omega) (by simp; omega)
  refine ⟨v', w', hr, h1, ⟨?_, ?_⟩⟩
  · have hs := h2.size
    rw [World.size_alloc] at hs
    exact ⟨h2.os, h2.tape, h2.output, by omega, fun j hj hne => by rw [h2.block j (by rw [World.size_alloc]; omega) hne]; exact Below.heap_alloc w _ j hj⟩
  · rcases h4 with h4 | h4
    · exact .inl h4
    · exact .inr fun g hg => by have := h4 g hg; rw [World.size_alloc] at this; omega

/-- append(s, b...): all numbers of a slice. -/
theorem run_app_all (hT : P.underlying T = some (.slice e)) (hI : elemInfo P e k bytes) (hby : bytes ≤ 8) (ty : TypeId) (w : World) (base : Nat) (v : Value) (l : List Int) (hown : Owns k e w base v l)
    (b : Option Addr) (n c : Nat) (lb : List Int) (hrd : RdAt k w b n c lb) (hlen : l.length + n ≤ 1099511627776) (hbase : base ≤ w.heap.size) :
    ∃ v' w', (Builtin.append_ #[T, T] ty #[v, .slice b n c]).run P w = .ok v' w' ∧ Owns k e w' base v' (l ++ lb) ∧ Grows w v w' v' := by
  have hl := hrd.len
  cases b with
  | none =>
    have hn : n = 0 := by
      cases n with
      | zero => rfl
      | succ n => obtain ⟨_, _, h', _⟩ := hrd.cell 0 (by omega); cases h'
    subst hn
    obtain rfl : lb = [] := List.eq_nil_of_length_eq_zero hl
    obtain ⟨a0, c0, rfl⟩ := hown.shape
    exact ⟨_, _, run_app_zero hT hI ty w a0 _ c0 (cap_of_owns hown).1 none c, by simpa using hown, Grows.refl _ _⟩
  | some ad =>
    exact run_app hT hI hby ty w base v l hown ad n c lb hl hrd.wf (by
        intro j u hu
        have hj : j < n := by have := (List.getElem?_eq_some_iff.1 hu).1; simpa [hl] using this
        obtain ⟨b, o', e', hc⟩ := hrd.cell j hj
        injection e' with e'
        subst e'
        rw [Addr.add_lit, hc]
        rw [List.getElem?_map, List.getElem?_eq_getElem (by omega)] at hu
        rw [nth_eq (by omega)]; exact hu) hlen hbase

theorem app_one (hT : P.underlying T = some (.slice e)) (hI : elemInfo P e k bytes) (hby : bytes ≤ 8) (hg : o.guard = none) (s x : Operand)
    (ho : o.op = .call { callee := .builtin .append, args := #[s, x], argTypes := #[T, T] }) (w : World) (base : Nat) (v : Value) (l : List Int) (hs : a.eval s = v) (hown : Owns k e w base v l)
    (q : Int) (hx : a.eval x = .slice (some ⟨w.heap.size, 0, none⟩) 1 1) (hq : (Lit.int k q).wf = true) (hlen : l.length ≤ 1099511627775) (hbase : base ≤ w.heap.size)
    (h : ∀ v' w', Owns k e w' base v' (l ++ [q]) → Grows w v w' v' → wpList P ops Q rest (a.put o.dst v') w') :
    wpList P ops Q (o :: rest) a (w.alloc (.cells #[.int k q] e)) := by
  refine wpList_plain hg fun K hK => ?_
  obtain ⟨v', w', hr, h1, h2⟩ := run_app_one (P := P) hT hI hby o.type w base v l hown q hq hlen hbase
  unfold Oper.wp execOp
  simp only [ho, resolve, invoke, builtin, Sem.run_bind, Sem.run_pure, Result.andThen_ok, List.map_toArray, List.map_cons, List.map_nil, hs, hx, hr]
  exact hK _ _ (h v' w' h1 h2)

theorem app_all (hT : P.underlying T = some (.slice e)) (hI : elemInfo P e k bytes) (hby : bytes ≤ 8) (hg : o.guard = none) (s x : Operand)
    (ho : o.op = .call { callee := .builtin .append, args := #[s, x], argTypes := #[T, T] }) (w : World) (base : Nat) (v : Value) (l : List Int) (hs : a.eval s = v) (hown : Owns k e w base v l)
    (b : Option Addr) (n c : Nat) (lb : List Int) (hx : a.eval x = .slice b n c) (hrd : RdAt k w b n c lb) (hlen : l.length + n ≤ 1099511627776) (hbase : base ≤ w.heap.size)
    (h : ∀ v' w', Owns k e w' base v' (l ++ lb) → Grows w v w' v' → wpList P ops Q rest (a.put o.dst v') w') :
    wpList P ops Q (o :: rest) a w := by
  refine wpList_plain hg fun K hK => ?_
  obtain ⟨v', w', hr, h1, h2⟩ := run_app_all (P := P) hT hI hby o.type w base v l hown b n c lb hrd hlen hbase
  unfold Oper.wp execOp
  simp only [ho, resolve, invoke, builtin, Sem.run_bind, Sem.run_pure, Result.andThen_ok, List.map_toArray, List.map_cons, List.map_nil, hs, hx, hr]
  exact hK _ _ (h v' w' h1 h2)

/-- The same two at a step of a region that draws its order. -/
theorem step_app_one {K : Act → World → Prop} {E : Prop} (hT : P.underlying T = some (.slice e)) (hI : elemInfo P e k bytes) (hby : bytes ≤ 8) (hg : o.guard = none) (s x : Operand)
    (ho : o.op = .call { callee := .builtin .append, args := #[s, x], argTypes := #[T, T] }) (w : World) (base : Nat) (v : Value) (l : List Int) (hs : a.eval s = v) (hown : Owns k e w base v l)
    (q : Int) (hx : a.eval x = .slice (some ⟨w.heap.size, 0, none⟩) 1 1) (hq : (Lit.int k q).wf = true) (hlen : l.length ≤ 1099511627775) (hbase : base ≤ w.heap.size)
    (h : ∀ v' w', Owns k e w' base v' (l ++ [q]) → Grows w v w' v' → K (a.put o.dst v') w') :
    if Region.wanted o (yielded ops a.tmps) = true then Oper.wp P o a (w.alloc (.cells #[.int k q] e)) K Q else E := by
  rw [if_pos (by simp [Region.wanted, hg])]
  obtain ⟨v', w', hr, h1, h2⟩ := run_app_one (P := P) hT hI hby o.type w base v l hown q hq hlen hbase
  unfold Oper.wp execOp
  simp only [ho, resolve, invoke, builtin, Sem.run_bind, Sem.run_pure, Result.andThen_ok, List.map_toArray, List.map_cons, List.map_nil, hs, hx, hr]
  exact h v' w' h1 h2
theorem step_app_all {K : Act → World → Prop} {E : Prop} (hT : P.underlying T = some (.slice e)) (hI : elemInfo P e k bytes) (hby : bytes ≤ 8) (hg : o.guard = none) (s x : Operand)
    (ho : o.op = .call { callee := .builtin .append, args := #[s, x], argTypes := #[T, T] }) (w : World) (base : Nat) (v : Value) (l : List Int) (hs : a.eval s = v) (hown : Owns k e w base v l)
    (b : Option Addr) (n c : Nat) (lb : List Int) (hx : a.eval x = .slice b n c) (hrd : RdAt k w b n c lb) (hlen : l.length + n ≤ 1099511627776) (hbase : base ≤ w.heap.size)
    (h : ∀ v' w', Owns k e w' base v' (l ++ lb) → Grows w v w' v' → K (a.put o.dst v') w') :
    if Region.wanted o (yielded ops a.tmps) = true then Oper.wp P o a w K Q else E := by
  rw [if_pos (by simp [Region.wanted, hg])]
  obtain ⟨v', w', hr, h1, h2⟩ := run_app_all (P := P) hT hI hby o.type w base v l hown b n c lb hrd hlen hbase
  unfold Oper.wp execOp
  simp only [ho, resolve, invoke, builtin, Sem.run_bind, Sem.run_pure, Result.andThen_ok, List.map_toArray, List.map_cons, List.map_nil, hs, hx, hr]
  exact h v' w' h1 h2
end
end Go.Proofs.Ytcbnebcooiagmaa
namespace Go.Proofs.Ytcbnebcooiagmaa
open Go.RowKit
set_option maxRecDepth 100000 in
theorem u8T : Try.prog.underlying 29 = some (.slice 5) := Try.underlying29
set_option maxRecDepth 100000 in
theorem u8I : elemInfo Try.prog 5 .u8 1 := by unfold elemInfo; kernel_rfl
end Go.Proofs.Ytcbnebcooiagmaa
namespace Go.Proofs.Ytcbnebcooiagmaa
open Go.RowKit

def bitAt (l : List Int) (j : Nat) : Int := nth l (j / 8) / 2 ^ (j % 8) % 2
def fieldK (l : List Int) (p : Nat) : Nat → Int
  | 0 => 0
  | k + 1 => fieldK l p k + bitAt l (p + k) * 2 ^ k
def getK (l : List Int) : Nat → Int
  | 0 => 0
  | k + 1 => getK l k + nth l k * 2 ^ (8 * k)

theorem bitAt_bd (l : List Int) (j : Nat) : 0 ≤ bitAt l j ∧ bitAt l j ≤ 1 := by
  unfold bitAt
  have h0 : 0 ≤ nth l (j / 8) / 2 ^ (j % 8) % 2 := Int.emod_nonneg _ (by omega)
  have h1 : nth l (j / 8) / 2 ^ (j % 8) % 2 < 2 := Int.emod_lt_of_pos _ (by omega)
  omega
theorem fieldK_bd (l : List Int) (p : Nat) : ∀ k, 0 ≤ fieldK l p k ∧ fieldK l p k < 2 ^ k
  | 0 => by simp [fieldK]
  | k + 1 => by
    have ih := fieldK_bd l p k
    have hb := bitAt_bd l (p + k)
    have e : (2 : Int) ^ (k + 1) = 2 ^ k * 2 := Int.pow_succ _ _
    unfold fieldK
    rcases (by omega : bitAt l (p + k) = 0 ∨ bitAt l (p + k) = 1) with h | h <;> rw [h, e] <;> omega
theorem fieldK_low (l : List Int) : ∀ (k p : Nat), fieldK l p (k + 1) = bitAt l p + 2 * fieldK l (p + 1) k
  | 0, p => by simp [fieldK]
  | k + 1, p => by
    have ih := fieldK_low l k p
    have e : (2 : Int) ^ (k + 1) = 2 * 2 ^ k := by rw [Int.pow_succ]; omega
    rw [fieldK, ih, fieldK, e, show p + 1 + k = p + (k + 1) by omega, Int.mul_add, Int.add_assoc, Int.mul_left_comm]
theorem fieldK_split (l : List Int) (p n : Nat) : ∀ m, fieldK l p (n + m) = fieldK l p n + fieldK l (p + n) m * 2 ^ n
  | 0 => by simp [fieldK]
  | m + 1 => by
    have ih := fieldK_split l p n m
    rw [← Nat.add_assoc, fieldK, ih, fieldK, Int.add_mul, Int.add_assoc, Int.pow_add, Nat.add_assoc, Int.mul_assoc, Int.mul_comm (2 ^ n)]
theorem field_one (x : Int) (k : Nat) (h1 : 0 ≤ x) (h2 : x ≤ 1) (hk : k ≤ 63) : IntKind.u64.wrap (x * 2 ^ k) = x * 2 ^ k := by
  have hp := pow_le_of hk
  have hp1 : (1 : Int) ≤ 2 ^ k := by exact_mod_cast Nat.one_le_two_pow
  refine IntWalk.u64_in _ ?_
  rcases (by omega : x = 0 ∨ x = 1) with h | h <;> rw [h] <;> omega
theorem field_go (l : List Int) (p k : Nat) (hk : k ≤ 63) :
    bits .or .u64 (fieldK l p k) (bitAt l (p + k) * 2 ^ k) = fieldK l p (k + 1) := by
  have hb := bitAt_bd l (p + k)
  have hf := fieldK_bd l p k
  have hp := pow_le_of hk
  have hp1 : (1 : Int) ≤ 2 ^ k := by exact_mod_cast Nat.one_le_two_pow
  rw [fieldK]
  have e : bits .or .u64 (fieldK l p k) (bitAt l (p + k) * 2 ^ k) = bits .or .u64 (bitAt l (p + k) * 2 ^ k) (fieldK l p k) := by
    unfold bits; simp only; rw [BitVec.or_comm]
  have hx : 0 ≤ bitAt l (p + k) * 2 ^ k ∧ bitAt l (p + k) * 2 ^ k ≤ 2 ^ k := by
    rcases (by omega : bitAt l (p + k) = 0 ∨ bitAt l (p + k) = 1) with h | h <;> rw [h] <;> omega
  rw [e, u64_join _ _ k hx.1 (by omega) hf.1 (by omega) (by simp) hf.2]
  omega
theorem byte_bit (x : Int) (i : Nat) (h1 : 0 ≤ x) (h2 : x ≤ 255) : bits .and .u8 (x / 2 ^ i) 1 = x / 2 ^ i % 2 := by
  have hd := div_bd x i h1
  rw [u8_and _ 1 hd.1 (by omega) (by omega) (by omega), show (1 : Int).toNat = 1 from rfl, Nat.and_one_is_mod]; omega
theorem i64_and_7 (x : Int) (h1 : 0 ≤ x) (h2 : x ≤ 9223372036854775807) : bits .and .i64 x 7 = x % 8 := by
  obtain ⟨a, rfl⟩ := Int.eq_ofNat_of_zero_le h1
  have h := bits_nat .i64 63 (by decide) (fun n h0 h1 => IntWalk.i64_in n (by omega)) a 7 (by omega) (by omega)
  have h' := h.1
  rw [show ((7 : Nat) : Int) = 7 from rfl] at h'
  rw [h', show (7 : Nat) = 2 ^ 3 - 1 from rfl, Nat.and_two_pow_sub_one_eq_mod]
  omega
theorem getK_bd (l : List Int) : ∀ k, (∀ i, i < k → 0 ≤ nth l i ∧ nth l i ≤ 255) → 0 ≤ getK l k ∧ getK l k < 2 ^ (8 * k)
  | 0, _ => by simp [getK]
  | k + 1, h => by
    have ih := getK_bd l k (fun i hi => h i (by omega))
    have hb := h k (by omega)
    have e : (2 : Int) ^ (8 * (k + 1)) = 2 ^ (8 * k) * 256 := by rw [Nat.mul_add, Int.pow_add]; rfl
    have hp1 : (1 : Int) ≤ 2 ^ (8 * k) := by exact_mod_cast Nat.one_le_two_pow
    have h0 : 0 ≤ nth l k * 2 ^ (8 * k) := Int.mul_nonneg hb.1 (by omega)
    have h1 : nth l k * 2 ^ (8 * k) ≤ 255 * 2 ^ (8 * k) := Int.mul_le_mul_of_nonneg_right hb.2 (by omega)
    unfold getK; rw [e]; omega
theorem get_wrap (x : Int) (k : Nat) (h1 : 0 ≤ x) (h2 : x ≤ 255) (hk : k ≤ 7) : IntKind.u64.wrap (x * 2 ^ (8 * k)) = x * 2 ^ (8 * k) := by
  have hp := pow_le_of (show 8 * k ≤ 56 by omega)
  have hp1 : (1 : Int) ≤ 2 ^ (8 * k) := by exact_mod_cast Nat.one_le_two_pow
  have h0 : 0 ≤ x * 2 ^ (8 * k) := Int.mul_nonneg h1 (by omega)
  have h3 : x * 2 ^ (8 * k) ≤ 255 * 2 ^ (8 * k) := Int.mul_le_mul_of_nonneg_right h2 (by omega)
  exact IntWalk.u64_in _ (by omega)
theorem get_go (l : List Int) (k : Nat) (hk : k ≤ 7) (h : ∀ i, i ≤ k → 0 ≤ nth l i ∧ nth l i ≤ 255) :
    bits .or .u64 (getK l k) (IntKind.u64.wrap (nth l k * 2 ^ (8 * k))) = getK l (k + 1) := by
  have hb := h k (by omega)
  have hf := getK_bd l k (fun i hi => h i (by omega))
  have hg := getK_bd l (k + 1) (fun i hi => h i (by omega))
  have hp := pow_le_of (show 8 * (k + 1) ≤ 64 by omega)
  have hp1 : (1 : Int) ≤ 2 ^ (8 * k) := by exact_mod_cast Nat.one_le_two_pow
  have h0 : 0 ≤ nth l k * 2 ^ (8 * k) := Int.mul_nonneg hb.1 (by omega)
  have e : bits .or .u64 (getK l k) (nth l k * 2 ^ (8 * k)) = bits .or .u64 (nth l k * 2 ^ (8 * k)) (getK l k) := by
    unfold bits; simp only; rw [BitVec.or_comm]
  unfold getK at hg
  rw [get_wrap _ _ hb.1 hb.2 hk, e, u64_join _ _ (8 * k) h0 (by omega) hf.1 (by omega) (by simp) hf.2]
  show _ = getK l k + nth l k * 2 ^ (8 * k)
  omega
/-- The bytes from i on, n of them, as a number. -/
def getFrom (l : List Int) (i : Nat) : Nat → Int
  | 0 => 0
  | n + 1 => nth l i + 256 * getFrom l (i + 1) n
theorem getFrom_snoc (l : List Int) : ∀ (n i : Nat), getFrom l i (n + 1) = getFrom l i n + nth l (i + n) * 2 ^ (8 * n)
  | 0, i => by simp [getFrom]
  | n + 1, i => by
    have ih := getFrom_snoc l n (i + 1)
    have e : (2 : Int) ^ (8 * (n + 1)) = 256 * 2 ^ (8 * n) := by rw [Nat.mul_add, Int.pow_add, Int.mul_comm]; rfl
    rw [getFrom, ih, getFrom, e, show i + 1 + n = i + (n + 1) by omega, Int.mul_add, Int.add_assoc, Int.mul_left_comm]
theorem getFrom_zero (l : List Int) : ∀ n, getFrom l 0 n = getK l n
  | 0 => rfl
  | n + 1 => by rw [getFrom_snoc, getFrom_zero l n, getK, Nat.zero_add]
theorem byte_field (l : List Int) (i : Nat) (h : 0 ≤ nth l i ∧ nth l i ≤ 255) : fieldK l (8 * i) 8 = nth l i := by
  have b (j : Nat) (hj : j < 8) : bitAt l (8 * i + j) = nth l i / 2 ^ j % 2 := by
    unfold bitAt; rw [show (8 * i + j) / 8 = i by omega, show (8 * i + j) % 8 = j by omega]
  simp only [fieldK, b 0 (by omega), b 1 (by omega), b 2 (by omega), b 3 (by omega), b 4 (by omega), b 5 (by omega), b 6 (by omega), b 7 (by omega)]
  obtain ⟨h1, h2⟩ := h
  generalize nth l i = x at *
  simp only [Int.pow_zero, Int.reducePow, Int.ediv_one, Int.mul_one]
  omega
theorem field_get (l : List Int) : ∀ n, (∀ i, i < n → 0 ≤ nth l i ∧ nth l i ≤ 255) → fieldK l 0 (8 * n) = getK l n
  | 0, _ => rfl
  | n + 1, h => by
    rw [Nat.mul_add, fieldK_split, field_get l n (fun i hi => h i (by omega)), Nat.zero_add]
    show _ + fieldK l (8 * n) 8 * _ = _
    rw [byte_field l n (h n (by omega)), getK]
theorem field_step (l : List Int) (p k : Nat) (hk : k ≤ 63) (h1 : 0 ≤ nth l ((p + k) / 8)) (h2 : nth l ((p + k) / 8) ≤ 255) :
    bits BinOp.or IntKind.u64 (fieldK l p k) (IntKind.u64.wrap (IntKind.u64.wrap (bits BinOp.and IntKind.u8 (nth l ((p + k) / 8) / 2 ^ ((p + k) % 8)) 1) * 2 ^ k)) = fieldK l p (k + 1) := by
  have hb := bitAt_bd l (p + k)
  rw [byte_bit _ _ h1 h2]
  show bits BinOp.or IntKind.u64 (fieldK l p k) (IntKind.u64.wrap (IntKind.u64.wrap (bitAt l (p + k)) * 2 ^ k)) = _
  rw [IntWalk.u64_in (bitAt l (p + k)) (by omega), field_one _ _ hb.1 hb.2 hk, field_go l p k hk]
theorem rfield_step (l : List Int) (p k m : Nat) (h1 : 0 ≤ nth l ((p + k) / 8)) (h2 : nth l ((p + k) / 8) ≤ 255) :
    2 * fieldK l (p + (k + 1)) m + bits BinOp.and IntKind.u8 (nth l ((p + k) / 8) / 2 ^ ((p + k) % 8)) 1 = fieldK l (p + k) (m + 1) := by
  rw [byte_bit _ _ h1 h2, fieldK_low, Int.add_comm]; rfl
theorem getFrom_bd (l : List Int) : ∀ (n i : Nat), (∀ j, j < i + n → 0 ≤ nth l j ∧ nth l j ≤ 255) → 0 ≤ getFrom l i n ∧ getFrom l i n < 2 ^ (8 * n)
  | 0, i, _ => by simp [getFrom]
  | n + 1, i, h => by
    have ih := getFrom_bd l n (i + 1) (fun j hj => h j (by omega))
    have hb := h i (by omega)
    have e : (2 : Int) ^ (8 * (n + 1)) = 256 * 2 ^ (8 * n) := by rw [Nat.mul_add, Int.pow_add, Int.mul_comm]; rfl
    unfold getFrom; rw [e]; omega
end Go.Proofs.Ytcbnebcooiagmaa
namespace Go.Proofs.Ytcbnebcooiagmaa
open Go.RowKit

/-- How many of the first bytes (at most ten) go on. -/
def leadF (l : List Int) (n : Nat) : Nat → Nat → Nat
  | 0, k => k
  | f + 1, k => if k < n ∧ 128 ≤ nth l k then leadF l n f (k + 1) else k
def lead (l : List Int) (n : Nat) : Nat := leadF l n 10 0
def valK (l : List Int) : Nat → Int
  | 0 => 0
  | k + 1 => valK l k + nth l k % 128 * 2 ^ (7 * k)
def valFrom (l : List Int) (i : Nat) : Nat → Int
  | 0 => 0
  | n + 1 => nth l i % 128 + 128 * valFrom l (i + 1) n
def rvForm (l : List Int) (n : Nat) : Bool := decide (lead l n = 10 ∨ (lead l n ≠ n ∧ ((0 < lead l n ∧ nth l (lead l n) = 0) ∨ (lead l n = 9 ∧ 1 < nth l 9))))
def rvE (l : List Int) (n : Nat) : Int := if rvForm l n then 22 else if lead l n = n then 21 else 0
def rvV (l : List Int) (n : Nat) : Int := if rvE l n = 0 then valK l (lead l n + 1) else 0
def rvN (l : List Int) (n : Nat) : Int := if rvE l n = 0 then lead l n + 1 else 0

theorem lead_go (l : List Int) (n : Nat) : ∀ k, k ≤ 10 → (∀ j, j < k → j < n ∧ 128 ≤ nth l j) → lead l n = leadF l n (10 - k) k
  | 0, _, _ => rfl
  | k + 1, hk, h => by
    rw [lead_go l n k (by omega) (fun j hj => h j (by omega)), show 10 - k = (10 - (k + 1)) + 1 by omega, leadF, if_pos (h k (by omega))]
theorem lead_ten {l : List Int} {n : Nat} (h : ∀ j, j < 10 → j < n ∧ 128 ≤ nth l j) : lead l n = 10 := by rw [lead_go l n 10 (by omega) h]; rfl
theorem lead_at {l : List Int} {n k : Nat} (hk : k < 10) (h : ∀ j, j < k → j < n ∧ 128 ≤ nth l j) (hn : ¬ (k < n ∧ 128 ≤ nth l k)) : lead l n = k := by
  rw [lead_go l n k (by omega) h, show 10 - k = (9 - k) + 1 by omega, leadF, if_neg hn]
theorem rv_ten {l : List Int} {n : Nat} (h : lead l n = 10) : rvV l n = 0 ∧ rvN l n = 0 ∧ rvE l n = 22 := by
  have hf : rvForm l n = true := by unfold rvForm; simp [h]
  have he : rvE l n = 22 := by unfold rvE; simp [hf]
  refine ⟨?_, ?_, he⟩
  · unfold rvV; rw [if_neg (by omega)]
  · unfold rvN; rw [if_neg (by omega)]
theorem rv_short {l : List Int} {n : Nat} (h : lead l n = n) (hn : n < 10) : rvV l n = 0 ∧ rvN l n = 0 ∧ rvE l n = 21 := by
  have hf : rvForm l n = false := by unfold rvForm; simp [h]; omega
  have he : rvE l n = 21 := by unfold rvE; simp [hf, h]
  refine ⟨?_, ?_, he⟩
  · unfold rvV; rw [if_neg (by omega)]
  · unfold rvN; rw [if_neg (by omega)]
theorem rv_form {l : List Int} {n k : Nat} (h : lead l n = k) (hn : k < n) (hb : (0 < k ∧ nth l k = 0) ∨ (k = 9 ∧ 1 < nth l k)) : rvV l n = 0 ∧ rvN l n = 0 ∧ rvE l n = 22 := by
  have hf : rvForm l n = true := by
    unfold rvForm; rw [h]
    rcases hb with ⟨h1, h2⟩ | ⟨h1, h2⟩
    · exact decide_eq_true (Or.inr ⟨by omega, Or.inl ⟨h1, h2⟩⟩)
    · subst h1; exact decide_eq_true (Or.inr ⟨by omega, Or.inr ⟨rfl, h2⟩⟩)
  have he : rvE l n = 22 := by unfold rvE; simp [hf]
  refine ⟨?_, ?_, he⟩
  · unfold rvV; rw [if_neg (by omega)]
  · unfold rvN; rw [if_neg (by omega)]
theorem rv_ok {l : List Int} {n k : Nat} (h : lead l n = k) (hn : k < n) (hk : k < 10) (h1 : ¬ (0 < k ∧ nth l k = 0)) (h2 : ¬ (k = 9 ∧ 1 < nth l k)) : rvV l n = valK l (k + 1) ∧ rvN l n = k + 1 ∧ rvE l n = 0 := by
  have hf : rvForm l n = false := by
    unfold rvForm; rw [h]
    refine decide_eq_false ?_
    rintro (h3 | ⟨_, h3 | ⟨h3, h4⟩⟩)
    · omega
    · exact h1 h3
    · subst h3; exact h2 ⟨rfl, h4⟩
  have he : rvE l n = 0 := by unfold rvE; rw [h, hf]; simp; omega
  refine ⟨?_, ?_, he⟩
  · unfold rvV; rw [if_pos he, h]
  · unfold rvN; rw [if_pos he, h]
theorem valK_bd (l : List Int) : ∀ k, 0 ≤ valK l k ∧ valK l k < 2 ^ (7 * k)
  | 0 => by simp [valK]
  | k + 1 => by
    have ih := valK_bd l k
    have e : (2 : Int) ^ (7 * (k + 1)) = 2 ^ (7 * k) * 128 := by rw [Nat.mul_add, Int.pow_add]; rfl
    have hp1 : (1 : Int) ≤ 2 ^ (7 * k) := by exact_mod_cast Nat.one_le_two_pow
    have h0 : 0 ≤ nth l k % 128 * 2 ^ (7 * k) := Int.mul_nonneg (by omega) (by omega)
    have h1 : nth l k % 128 * 2 ^ (7 * k) ≤ 127 * 2 ^ (7 * k) := Int.mul_le_mul_of_nonneg_right (by omega) (by omega)
    unfold valK; rw [e]; omega
theorem valFrom_snoc (l : List Int) : ∀ (n i : Nat), valFrom l i (n + 1) = valFrom l i n + nth l (i + n) % 128 * 2 ^ (7 * n)
  | 0, i => by simp [valFrom]
  | n + 1, i => by
    have ih := valFrom_snoc l n (i + 1)
    have e : (2 : Int) ^ (7 * (n + 1)) = 128 * 2 ^ (7 * n) := by rw [Nat.mul_add, Int.pow_add, Int.mul_comm]; rfl
    rw [valFrom, ih, valFrom, e, show i + 1 + n = i + (n + 1) by omega, Int.mul_add, Int.add_assoc, Int.mul_left_comm]
theorem valFrom_zero (l : List Int) : ∀ n, valFrom l 0 n = valK l n
  | 0 => rfl
  | n + 1 => by rw [valFrom_snoc, valFrom_zero l n, valK, Nat.zero_add]
theorem valFrom_bd (l : List Int) : ∀ (n i : Nat), 0 ≤ valFrom l i n ∧ valFrom l i n < 2 ^ (7 * n)
  | 0, i => by simp [valFrom]
  | n + 1, i => by
    have ih := valFrom_bd l n (i + 1)
    have e : (2 : Int) ^ (7 * (n + 1)) = 128 * 2 ^ (7 * n) := by rw [Nat.mul_add, Int.pow_add, Int.mul_comm]; rfl
    unfold valFrom; rw [e]; omega
theorem valFrom_top (l : List Int) : ∀ (n i : Nat), nth l (i + n) % 128 ≤ 1 → valFrom l i (n + 1) < 2 ^ (7 * n + 1)
  | 0, i, h => by simp [valFrom] at *; omega
  | n + 1, i, h => by
    have ih := valFrom_top l n (i + 1) (by rw [show i + 1 + n = i + (n + 1) by omega]; exact h)
    have e : (2 : Int) ^ (7 * (n + 1) + 1) = 128 * 2 ^ (7 * n + 1) := by rw [show 7 * (n + 1) + 1 = 7 * n + 1 + 7 by omega, Int.pow_add, Int.mul_comm]; rfl
    rw [valFrom, e]; omega
theorem u8_and_127 (x : Int) (h1 : 0 ≤ x) (h2 : x ≤ 255) : bits .and .u8 x 127 = x % 128 := by
  obtain ⟨a, rfl⟩ := Int.eq_ofNat_of_zero_le h1
  rw [u8_and _ 127 h1 (by omega) (by omega) (by omega), Int.toNat_natCast, show (127 : Int).toNat = 2 ^ 7 - 1 from rfl, Nat.and_two_pow_sub_one_eq_mod]
  omega
theorem u8_and_128 (x : Int) (h1 : 0 ≤ x) (h2 : x ≤ 255) : bits .and .u8 x 128 = if 128 ≤ x then 128 else 0 := by
  obtain ⟨a, rfl⟩ := Int.eq_ofNat_of_zero_le h1
  rw [u8_and _ 128 h1 (by omega) (by omega) (by omega), Int.toNat_natCast, show (128 : Int).toNat = 128 from rfl]
  have : ∀ y : Fin 256, (y.val &&& 128) = if 128 ≤ y.val then 128 else 0 := by decide +kernel
  have := this ⟨a, by omega⟩
  simp only at this
  rw [this]
  split <;> split <;> omega
theorem val_step (l : List Int) (k : Nat) (hk : k ≤ 9) (h9 : k = 9 → nth l k ≤ 1) (h0 : 0 ≤ nth l k) :
    bits BinOp.or IntKind.u64 (valK l k) (IntKind.u64.wrap (nth l k % 128 * 2 ^ (7 * k))) = valK l (k + 1) := by
  have hf := valK_bd l k
  have hp1 : (1 : Int) ≤ 2 ^ (7 * k) := by exact_mod_cast Nat.one_le_two_pow
  have h1 : 0 ≤ nth l k % 128 * 2 ^ (7 * k) := Int.mul_nonneg (by omega) (by omega)
  have h2 : nth l k % 128 * 2 ^ (7 * k) ≤ 9223372036854775808 := by
    by_cases h : k = 9
    · subst h; have := h9 rfl; omega
    · have hp := pow_le_of (show 7 * k ≤ 56 by omega)
      have : nth l k % 128 * 2 ^ (7 * k) ≤ 127 * 2 ^ (7 * k) := Int.mul_le_mul_of_nonneg_right (by omega) (by omega)
      omega
  have hp := pow_le_of (show 7 * k ≤ 63 by omega)
  have e : bits .or .u64 (valK l k) (nth l k % 128 * 2 ^ (7 * k)) = bits .or .u64 (nth l k % 128 * 2 ^ (7 * k)) (valK l k) := by
    unfold bits; simp only; rw [BitVec.or_comm]
  rw [IntWalk.u64_in _ (by omega), e, u64_join _ _ (7 * k) h1 (by omega) hf.1 (by omega) (by simp) hf.2, valK]
  omega

set_option maxRecDepth 100000 in
set_option maxHeartbeats 400000 in
theorem readvar_any (a : Option Addr) (n c : Nat) (l : List Int) (w : World) (h : RdAt .u8 w a n c l) :
    Calls Try.prog 102 #[.slice a n c] w fun e w' => e = .returned (.tuple #[.int .u64 (rvV l n), .int .i64 (rvN l n), .int .i64 (rvE l n)]) ∧ w = w' := by
  have hmax := h.max
  have hcap := h.cap
  unfold maxLen at hmax
  go_enter Try.func102, Try.ntmps102
  go_wp2
  go_loop [5, 10] (fun x i => ∃ k : Nat, k ≤ n ∧ k ≤ 9 ∧ i = .int .i64 k ∧ x = .int .u64 (valK l k) ∧ ∀ j, j < k → j < n ∧ 128 ≤ nth l j) (fun _ i => n - (intOf i).toNat)
  case atStart => exact ⟨0, by omega, by omega, rfl, rfl, fun j hj => by omega⟩
  case round =>
    obtain ⟨k, hk, hk9, rfl, rfl, hall⟩ := hrel
    have HALL := Lib.hid hall
    clear hall
    by_cases hp : k < n
    · obtain ⟨b, o, rfl, hc⟩ := h.cell k hp
      have hb := h.byte k hp
      have hb1 := hb.1
      have hb2 := hb.2
      have h127 := u8_and_127 _ hb1 hb2
      clear hb
      by_cases hgo : 128 ≤ nth l k
      · have h128 : bits .and .u8 (nth l k) 128 = 128 := by rw [u8_and_128 _ hb1 hb2, if_pos hgo]
        by_cases h9 : k = 9
        · subst h9
          have hr := Lib.hid (rv_ten (lead_ten (l := l) (n := n) (fun j hj => by by_cases e : j = 9; (subst e; exact ⟨hp, hgo⟩); exact HALL.out j (by omega))))
          go_wp2
          go_ret3
          rw [hr.out.1, hr.out.2.1, hr.out.2.2]
          exact ⟨rfl, rfl⟩
        · have hs := Lib.hid (val_step l k hk9 (fun e => absurd e h9) hb1)
          have k9 : ((k : Int) == 9) = false := by simp; omega
          have k10 : ((k : Int) == 10) = false := by simp; omega
          go_wp2
          go_round
          case rel => exact ⟨k + 1, by omega, by omega, by go_num, by rw [hs.out], fun j hj => by by_cases e : j = k; (subst e; exact ⟨hp, hgo⟩); exact HALL.out j (by omega)⟩
          case measure => simp [intOf] <;> omega
      · have h128 : bits .and .u8 (nth l k) 128 = 0 := by rw [u8_and_128 _ hb1 hb2, if_neg hgo]
        have hl : lead l n = k := lead_at (by omega) HALL.out (by omega)
        have HL := Lib.hid hl
        clear hl
        have k10 : ((k : Int) == 10) = false := by simp; omega
        by_cases hz : 0 < k ∧ nth l k = 0
        · have hr := Lib.hid (rv_form HL.out hp (Or.inl hz))
          obtain ⟨hz1, hz2⟩ := hz
          have hz3 : (nth l k == 0) = true := by simp [hz2]
          have hz4 : nth l k ≤ 0 := by omega
          clear hz2
          go_wp2
          all_goals
            go_ret3
            rw [hr.out.1, hr.out.2.1, hr.out.2.2]
            exact ⟨rfl, rfl⟩
        · by_cases h9 : k = 9 ∧ 1 < nth l k
          · have hr := Lib.hid (rv_form HL.out hp (Or.inr h9))
            obtain ⟨h91, h92⟩ := h9
            have k9 : ((k : Int) == 9) = true := by simp; omega
            have k9' : (k : Int) ≤ 9 := by omega
            have k9'' : 9 ≤ (k : Int) := by omega
            clear h91
            go_wp2
            go_ret3
            rw [hr.out.1, hr.out.2.1, hr.out.2.2]
            exact ⟨rfl, rfl⟩
          · have hr := Lib.hid (rv_ok HL.out hp (by omega) hz h9)
            have hs := Lib.hid (val_step l k hk9 (fun e => by omega) hb1)
            by_cases hk0 : k = 0
            · have hk1 : (k : Int) ≤ 0 := by omega
              have k9 : ((k : Int) == 9) = false := by simp; omega
              clear hk0 hz h9
              by_cases hz3 : (nth l k == 0) = true
              all_goals
                try simp only [Bool.not_eq_true] at hz3
                go_wp2
                go_ret3
                rw [hr.out.1, hr.out.2.1, hr.out.2.2, ← hs.out]
                exact ⟨rfl, rfl⟩
            · have hz3 : (nth l k == 0) = false := by simp; omega
              by_cases k9 : k = 9
              · have h91 : nth l k ≤ 1 := by omega
                have k9a : ((k : Int) == 9) = true := by simp; omega
                clear hz h9 k9
                go_wp2
                go_ret3
                rw [hr.out.1, hr.out.2.1, hr.out.2.2, ← hs.out]
                exact ⟨rfl, rfl⟩
              · have k9' : ((k : Int) == 9) = false := by simp; omega
                clear hz h9
                go_wp2
                go_ret3
                rw [hr.out.1, hr.out.2.1, hr.out.2.2, ← hs.out]
                exact ⟨rfl, rfl⟩
    · obtain rfl : k = n := by omega
      have hr := Lib.hid (rv_short (l := l) (n := k) (lead_at (by omega) HALL.out (by omega)) (by omega))
      go_wp2
      go_ret3
      rw [hr.out.1, hr.out.2.1, hr.out.2.2]
      exact ⟨rfl, rfl⟩
end Go.Proofs.Ytcbnebcooiagmaa
namespace Go.Proofs.Ytcbnebcooiagmaa
open Go.RowKit
/-- What reading something comes to: the error (0: none), what is told, what is left. -/
structure Rd (α : Type) where
  e : Int
  v : α
  l : List Int
/-- One number. -/
def rdInt (l : List Int) : Rd Int :=
  if rvE l l.length ≠ 0 then ⟨rvE l l.length, 0, l⟩ else ⟨0, zagI (rvV l l.length), l.drop (rvN l l.length).toNat⟩
def rdBetween (lo hi : Int) (l : List Int) : Rd Int :=
  if (rdInt l).e ≠ 0 then ⟨(rdInt l).e, 0, (rdInt l).l⟩ else if (rdInt l).v < lo ∨ hi < (rdInt l).v then ⟨22, 0, (rdInt l).l⟩ else rdInt l
def rdBytes (most : Int) (l : List Int) : Rd (List Int) :=
  if (rdBetween 0 most l).e ≠ 0 then ⟨(rdBetween 0 most l).e, [], (rdBetween 0 most l).l⟩
  else if ((rdBetween 0 most l).l.length : Int) < (rdBetween 0 most l).v then ⟨21, [], (rdBetween 0 most l).l⟩
  else ⟨0, (rdBetween 0 most l).l.take (rdBetween 0 most l).v.toNat, (rdBetween 0 most l).l.drop (rdBetween 0 most l).v.toNat⟩
/-- So many numbers. -/
def rdInts : Nat → List Int → Rd (List Int)
  | 0, l => ⟨0, [], l⟩
  | k + 1, l => if (rdInt l).e ≠ 0 then ⟨(rdInt l).e, [], (rdInt l).l⟩ else if (rdInts k (rdInt l).l).e ≠ 0 then ⟨(rdInts k (rdInt l).l).e, [], (rdInts k (rdInt l).l).l⟩ else ⟨0, (rdInt l).v :: (rdInts k (rdInt l).l).v, (rdInts k (rdInt l).l).l⟩
def rdList (most : Int) (l : List Int) : Rd (List Int) :=
  if (rdBetween 0 most l).e ≠ 0 then ⟨(rdBetween 0 most l).e, [], (rdBetween 0 most l).l⟩ else rdInts (rdBetween 0 most l).v.toNat (rdBetween 0 most l).l
/-- Behind an error nothing is told. -/
def rdFrom {α : Type} (e0 : Int) (z : α) (l : List Int) (r : Rd α) : Rd α := if e0 ≠ 0 then ⟨e0, z, l⟩ else r
theorem rdFrom_ok {α : Type} (z : α) (l : List Int) (r : Rd α) : rdFrom 0 z l r = r := if_neg (by simp)
theorem rdFrom_bad {α : Type} {e0 : Int} (z : α) (l : List Int) (r : Rd α) (h : e0 ≠ 0) : rdFrom e0 z l r = ⟨e0, z, l⟩ := if_pos h
theorem rdInt_bad {l : List Int} (h : rvE l l.length ≠ 0) : rdInt l = ⟨rvE l l.length, 0, l⟩ := by unfold rdInt; rw [if_pos h]
theorem rdInt_ok {l : List Int} (h : rvE l l.length = 0) : rdInt l = ⟨0, zagI (rvV l l.length), l.drop (rvN l l.length).toNat⟩ := by unfold rdInt; rw [if_neg (by simpa using h)]
theorem rvE_vals (l : List Int) (n : Nat) : rvE l n = 0 ∨ rvE l n = 21 ∨ rvE l n = 22 := by
  unfold rvE
  split
  · exact .inr (.inr rfl)
  · split
    · exact .inr (.inl rfl)
    · exact .inl rfl
theorem rdN_pos {x : List Int} {n : Nat} (h : rvE x n = 0) : 1 ≤ rvN x n := by unfold rvN; rw [if_pos h]; omega
theorem rdN_le {x : List Int} (h : rvE x x.length = 0) : rvN x x.length ≤ x.length := by
  have key : lead x x.length < x.length := by
    unfold rvE at h
    split at h
    · omega
    · split at h
      · omega
      · rename_i h1 h2
        have : ∀ (f k : Nat), k ≤ x.length → leadF x x.length f k ≤ x.length ∨ leadF x x.length f k = f + k := by
          intro f
          induction f with
          | zero => intro k hk; exact .inl (by simpa [leadF] using hk)
          | succ f ih =>
            intro k hk
            rw [leadF]
            split
            · rename_i hc
              rcases ih (k + 1) (by omega) with h | h
              · exact .inl h
              · exact .inr (by omega)
            · exact .inl hk
        rcases this 10 0 (by omega) with h | h
        · have : lead x x.length ≤ x.length := h
          omega
        · have h10 : lead x x.length = 10 := by unfold lead; omega
          exfalso
          apply h1
          unfold rvForm
          simp [h10]
  unfold rvN
  rw [if_pos h]
  omega
theorem rdV_bd (x : List Int) (n : Nat) : 0 ≤ rvV x n := by
  unfold rvV
  split
  · exact (valK_bd x _).1
  · omega
theorem rdInt_len {l : List Int} (h : (rdInt l).e = 0) : (rdInt l).l.length < l.length := by
  by_cases h0 : rvE l l.length = 0
  · rw [rdInt_ok h0]
    have h1 := rdN_pos h0
    have h2 := rdN_le h0
    simp only [List.length_drop]
    omega
  · rw [rdInt_bad h0] at h
    exact absurd h h0
theorem rdInt_sub (l : List Int) : ∀ y ∈ (rdInt l).l, y ∈ l := by
  by_cases h0 : rvE l l.length = 0
  · rw [rdInt_ok h0]
    exact fun y hy => List.mem_of_mem_drop hy
  · rw [rdInt_bad h0]
    exact fun y hy => hy
theorem rdInt_z {l : List Int} (h : (rdInt l).e ≠ 0) : (rdInt l).v = 0 := by
  by_cases h0 : rvE l l.length = 0
  · rw [rdInt_ok h0] at h
    exact absurd rfl h
  · rw [rdInt_bad h0]
theorem rdBetween_z {lo hi : Int} {l : List Int} (h : (rdBetween lo hi l).e ≠ 0) : (rdBetween lo hi l).v = 0 := by
  unfold rdBetween at *
  split at h
  · rename_i h1; rw [if_pos h1]
  · rename_i h1
    rw [if_neg h1]
    split at h
    · rename_i h2; rw [if_pos h2]
    · exact absurd h h1
theorem rdBytes_z {most : Int} {l : List Int} (h : (rdBytes most l).e ≠ 0) : (rdBytes most l).v = [] := by
  unfold rdBytes at *
  split at h
  · rename_i h1; rw [if_pos h1]
  · rename_i h1
    rw [if_neg h1]
    split at h
    · rename_i h2; rw [if_pos h2]
    · exact absurd rfl h
theorem rdInts_z : ∀ (k : Nat) (l : List Int), (rdInts k l).e ≠ 0 → (rdInts k l).v = []
  | 0, l, h => absurd rfl h
  | k + 1, l, h => by
    rw [rdInts] at h ⊢
    split
    · rfl
    · split
      · rfl
      · rename_i h1 h2
        rw [if_neg h1, if_neg h2] at h
        exact absurd rfl h
theorem rdList_z {most : Int} {l : List Int} (h : (rdList most l).e ≠ 0) : (rdList most l).v = [] := by
  unfold rdList at *
  split at h
  · rename_i h1; rw [if_pos h1]
  · rename_i h1
    rw [if_neg h1]
    exact rdInts_z _ _ h
theorem rdBetween_ok {lo hi : Int} {l : List Int} (h : (rdBetween lo hi l).e = 0) : rdBetween lo hi l = rdInt l ∧ (rdInt l).e = 0 ∧ lo ≤ (rdInt l).v ∧ (rdInt l).v ≤ hi := by
  unfold rdBetween at *
  split at h
  · rename_i h1; exact absurd h h1
  · rename_i h1
    rw [if_neg h1]
    split at h
    · simp at h
    · rename_i h2
      rw [if_neg h2]
      exact ⟨rfl, h, by omega, by omega⟩
theorem rd_leadF_top (x : List Int) (n : Nat) : ∀ f k, leadF x n f k ≤ f + k
  | 0, k => by unfold leadF; omega
  | f + 1, k => by
    have := rd_leadF_top x n f (k + 1)
    unfold leadF
    split <;> omega
theorem rdV_lt (x : List Int) (n : Nat) (h0 : 0 ≤ nth x 9) : rvV x n ≤ 18446744073709551615 := by
  unfold rvV
  split
  · rename_i he
    have hl : lead x n ≤ 10 := rd_leadF_top x n 10 0
    unfold rvE at he
    split at he
    · omega
    · rename_i hf
      have hf2 : ¬ (lead x n = 10 ∨ (lead x n ≠ n ∧ ((0 < lead x n ∧ nth x (lead x n) = 0) ∨ (lead x n = 9 ∧ 1 < nth x 9)))) := fun h => hf (by unfold rvForm; exact decide_eq_true h)
      have hn : lead x n ≠ n := by
        intro h
        rw [if_pos h] at he
        omega
      by_cases h9 : lead x n = 9
      · have h1 : nth x 9 ≤ 1 := by omega
        have := valFrom_top x 9 0 (by rw [Nat.zero_add]; omega)
        rw [valFrom_zero] at this
        rw [h9]
        have e : (2 : Int) ^ (7 * 9 + 1) = 18446744073709551616 := by decide
        omega
      · have h8 : lead x n ≤ 8 := by omega
        have h2 := (valK_bd x (lead x n + 1)).2
        have h3 : (2 : Int) ^ (7 * (lead x n + 1)) ≤ 2 ^ 63 := by
          have : (2 : Nat) ^ (7 * (lead x n + 1)) ≤ 2 ^ 63 := Nat.pow_le_pow_right (by omega) (by omega)
          exact_mod_cast this
        have e : (2 : Int) ^ 63 = 9223372036854775808 := by decide
        omega
  · omega
theorem rd_nth_pos (x : List Int) (h : ∀ y ∈ x, (Lit.int .u8 y).wf = true) (i : Nat) : 0 ≤ nth x i := by
  by_cases hi : i < x.length
  · rw [nth_eq hi]
    exact (wf_u8_bd (h _ (List.getElem_mem hi))).1
  · rw [nth_out (by omega)]; omega
end Go.Proofs.Ytcbnebcooiagmaa
namespace Go.Proofs.Ytcbnebcooiagmaa
open Go.RowKit

set_option maxRecDepth 100000 in
theorem zig_any (v : Int) (w : World) (h1 : -9223372036854775808 ≤ v) (h2 : v ≤ 9223372036854775807) :
    Calls Try.prog 76 #[.int .i64 v] w fun e w' => e = .returned (.int .u64 (zigI v)) ∧ w = w' := by
  go_enter Try.func76, Try.ntmps76
  go_wp2
  go_ret
  exact ⟨ret_int (zig_go v h1 h2), rfl⟩
set_option maxRecDepth 100000 in
theorem zag_any (v : Int) (w : World) (h1 : 0 ≤ v) (h2 : v ≤ 18446744073709551615) :
    Calls Try.prog 103 #[.int .u64 v] w fun e w' => e = .returned (.int .i64 (zagI v)) ∧ w = w' := by
  go_enter Try.func103, Try.ntmps103
  go_wp2
  go_ret
  exact ⟨ret_int (zag_go v h1 h2), rfl⟩
set_option maxRecDepth 100000 in
theorem rzig_any (v : Int) (w : World) (h1 : -9223372036854775808 ≤ v) (h2 : v ≤ 9223372036854775807) :
    Calls Try.prog 82 #[.int .i64 v] w fun e w' => e = .returned (.int .u64 (zigI v)) ∧ w = w' := by
  go_enter Try.func82, Try.ntmps82
  go_wp2
  · go_ret
    exact ⟨ret_int (by unfold zigI; rw [if_pos (by assumption)]), rfl⟩
  · go_ret
    exact ⟨ret_int (by unfold zigI; rw [if_neg (by omega)]), rfl⟩
set_option maxRecDepth 100000 in
theorem rzag_any (v : Int) (w : World) (h1 : 0 ≤ v) (h2 : v ≤ 18446744073709551615) :
    Calls Try.prog 94 #[.int .u64 v] w fun e w' => e = .returned (.int .i64 (zagI v)) ∧ w = w' := by
  by_cases h : v % 2 = 1
  · have h' : (v % 2 == 1) = true := by simpa using h
    have e : zagI v = -(v / 2) - 1 := by unfold zagI; rw [if_pos h]
    clear h
    go_enter Try.func94, Try.ntmps94
    go_wp2
    go_ret
    exact ⟨ret_int e.symm, rfl⟩
  · have h' : (v % 2 == 1) = false := by simpa using h
    have e : zagI v = v / 2 := by unfold zagI; rw [if_neg h]
    clear h
    go_enter Try.func94, Try.ntmps94
    go_wp2
    go_ret
    exact ⟨ret_int e.symm, rfl⟩
end Go.Proofs.Ytcbnebcooiagmaa
namespace Go.Proofs.Ytcbnebcooiagmaa
open Go.RowKit
/-- Ends with bytes of its own. -/
def GivesBytes (l : List Int) (w : World) (e : Ending) (w' : World) : Prop := ∃ v, e = .returned v ∧ Owns .u8 5 w' w.heap.size v l ∧ Below w.heap.size w w'
set_option maxRecDepth 100000 in
theorem clone_any (a : Option Addr) (n c : Nat) (l : List Int) (w : World) (h : RdAt .u8 w a n c l) (hn : n ≤ 1000000000) :
    Calls Try.prog 63 #[.slice a n c] w (GivesBytes l w) := by
  cases a with
  | none =>
    obtain rfl : c = 0 := h.void rfl
    have hcap := h.cap
    obtain rfl : n = 0 := by omega
    obtain rfl : l = [] := List.eq_nil_of_length_eq_zero h.len
    have hnil := fun (w : World) (a : Option Addr) (n c : Nat) => Lib.run_eql_slice_nil (P := Try.prog) w 29 5 a n c 0 0 Try.underlying29
    go_enter Try.func63, Try.ntmps63
    go_wp2
    go_ret
    exact ⟨_, rfl, Owns.nil _ _ _ _, Below.refl _ _⟩
  | some x =>
    have hnil := fun (w : World) (a : Option Addr) (n c : Nat) => Lib.run_eql_slice_nil (P := Try.prog) w 29 5 a n c 0 0 Try.underlying29
    go_enter Try.func63, Try.ntmps63
    go_wp2_with (at_builtin; refine app_all u8T u8I (by decide) rfl _ _ rfl _ w.heap.size _ [] rfl (Owns.empty _ _ _ _ _ _) _ _ _ l rfl (h.below ((Below.refl _ _).alloc (Nat.le_refl _) _)) (by simp; omega) (by simp) ?_; intro x1 w1 ho1 hg0)
    go_ret
    exact ⟨_, rfl, ho1, hg0.fromEmpty⟩
end Go.Proofs.Ytcbnebcooiagmaa
