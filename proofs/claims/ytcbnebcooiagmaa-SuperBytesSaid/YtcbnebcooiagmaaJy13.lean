/- Joined: The reference's Reader of records: Bytes. super: Decode. The contract of the reference's Get. -/
import Derived.Test.YtcbnebcooiagmaaJy12
import Derived.Test.YtcbnebcooiagmaaJy9
namespace Go.Proofs.Ytcbnebcooiagmaa
open Go.RowKit
def byt (T : Rd Int) : Rd (List Int) := if T.e ≠ 0 then ⟨T.e, [], T.l⟩ else if (T.l.length : Int) < T.v then ⟨21, [], T.l⟩ else ⟨0, T.l.take T.v.toNat, T.l.drop T.v.toNat⟩
theorem byt_eq (e0 most : Int) (l : List Int) : rdFrom e0 [] l (rdBytes most l) = byt (rdFrom e0 0 l (rdBetween 0 most l)) := by
  by_cases h0 : e0 = 0
  · subst h0
    rw [rdFrom_ok, rdFrom_ok]
    rfl
  · rw [rdFrom_bad _ _ _ h0, rdFrom_bad _ _ _ h0]
    unfold byt
    rw [if_pos h0]
theorem rdInt_le (l : List Int) : (rdInt l).l.length ≤ l.length := by
  by_cases h : rvE l l.length = 0
  · rw [rdInt_ok h]; simp
  · rw [rdInt_bad h]; exact Nat.le_refl _
theorem btw_len (e0 lo hi : Int) (l : List Int) : (rdFrom e0 0 l (rdBetween lo hi l)).l.length ≤ l.length := by
  unfold rdFrom
  split
  · exact Nat.le_refl _
  · unfold rdBetween
    split
    · exact rdInt_le l
    · split
      · exact rdInt_le l
      · exact rdInt_le l
theorem btw_pos {most V : Int} {T : Rd Int} {l : List Int} (h : rbtw 0 most T = ⟨0, V, l⟩) : 0 ≤ V := by
  unfold rbtw at h
  split at h
  · rename_i h1
    injection h with h2 _ _
    exact absurd h2 h1
  · split at h
    · injection h with h2 _ _
      cases h2
    · rename_i h2
      rw [h] at h2
      have h3 : ¬ (V < 0 ∨ most < V) := h2
      omega
set_option linter.unusedSimpArgs false in
set_option linter.unusedVariables false in
set_option maxRecDepth 100000 in
set_option maxHeartbeats 2000000 in
theorem rrBytes_any (h : Nat) (most : Int) (l : List Int) (e0 : Int) (w : World) (r : RRIn w h l e0) (hl : l.length ≤ 1000000) :
    Calls Try.prog 56 #[.pointer (some ⟨h, 0, none⟩), .int .i64 most] w (RREnd isB h (rdFrom e0 [] l (rdBytes most l)) w) := by
  rw [byt_eq]
  obtain ⟨⟨E, V, l1⟩, hT⟩ : ∃ T, rdFrom e0 0 l (rdBetween 0 most l) = T := ⟨_, rfl⟩
  have hV : E = 0 → 0 ≤ V := fun h0 => by
    rw [btw_eq, h0] at hT
    exact btw_pos hT
  have hle : l1.length ≤ l.length := by
    have h1 : (rdFrom e0 0 l (rdBetween 0 most l)).l.length ≤ l.length := btw_len e0 0 most l
    rw [hT] at h1
    exact h1
  have HLE := Lib.hid (Nat.le_trans hle hl)
  have hcnt := rrcount_any h most l e0 w r
  rw [hT] at hcnt ⊢
  have HC := Lib.hid hcnt
  have hlt := r.lt
  clear hT hcnt
  by_cases hE : E = 0
  · subst hE
    obtain ⟨k, rfl⟩ := Int.eq_ofNat_of_zero_le (hV rfl)
    clear hV
    go_enter Try.func56, Try.ntmps56
    go_wp2_with fail
    refine HC.out.mono ?_
    rintro e w1 ⟨hg, hr, V', rfl, hv⟩
    obtain rfl : V' = (k : Int) := hv rfl
    rw [show decide ((⟨0, (k : Int), l1⟩ : Rd Int).e = 0) = true from rfl]
    replace hr : RRIn w1 h l1 0 := hr
    obtain ⟨a, n, c, hc⟩ := hr
    obtain ⟨y0, y1, yf⟩ := hc.cells
    have hln := hc.rd.len
    have hcap := hc.rd.cap
    have hmax := hc.rd.max
    unfold maxLen at hmax
    have R1 := Lib.hid hc
    have G1 := Lib.hid hg
    have HLN := Lib.hid hln
    have hsz := hg.size
    clear hc hln hg hv
    by_cases q : n < k
    · have d1 : decide ((n : Int) < k) = true := decide_eq_true (by omega)
      have d1n : decide (n < k) = true := decide_eq_true q
      have HB : Hid (byt ⟨0, k, l1⟩ = ⟨21, [], l1⟩) := by show _ = _; unfold byt; rw [if_neg (by simp), if_pos (by show (l1.length : Int) < k; rw [HLN.out]; omega)]
      go_wp2_with fail
      refine (fail_ok h l1 21 w1 ⟨_, _, _, R1.out⟩).mono ?_
      rintro e w2 ⟨rfl, hr2, hg2⟩
      have R2 := Lib.hid hr2
      have G2 := Lib.hid hg2
      clear hr2 hg2 y0 y1 yf
      go_wp2_with fail
      go_ret
      rw [HB.out]
      exact ⟨G1.out.trans G2.out, R2.out, _, rfl, Owns.nil _ _ _ _⟩
    · have d1 : decide ((n : Int) < k) = false := decide_eq_false (by omega)
      have d1n : decide (n < k) = false := decide_eq_false q
      have hkn : k ≤ n := by omega
      have hkc : k ≤ c := by omega
      have HB : Hid (byt ⟨0, k, l1⟩ = ⟨0, l1.take k, l1.drop k⟩) := by show _ = _; unfold byt; rw [if_neg (by simp), if_neg (by show ¬ (l1.length : Int) < k; rw [HLN.out]; omega)]; rfl
      have hrt := rd_takeR R1.out.rd k c (by omega) (by omega) (Nat.le_refl _) R1.out.rd.void
      have HRT := Lib.hid hrt
      clear hrt
      have HLL : Hid (n ≤ 1000000) := by show _ ≤ _; have := HLE.out; rw [HLN.out] at this; omega
      have hnb := HLL.out
      have hh1 := R1.out.lt
      cases a with
      | none =>
        obtain rfl : c = 0 := R1.out.rd.void rfl
        obtain rfl : n = 0 := by omega
        obtain rfl : k = 0 := by omega
        go_wp2_with fail
        go_ret
        rw [HB.out]
        have R3 := R1.out.setB (l' := l1.drop 0) (by rw [List.drop_zero]; exact R1.out.rd) (fun q hq _ => by cases hq) (fun q hq => by cases hq)
        have hG3 := G1.out.trans (rcell_grown w1 h 0 (.slice none 0 0))
        refine ⟨hG3.trans (below_grown ((Below.refl _ _).alloc (Nat.le_refl _) _) R3.lt), ⟨_, _, _, R3.below ((Below.refl _ _).alloc (Nat.le_refl _) _)⟩, _, rfl, ?_⟩
        exact Owns.empty _ _ _ _ _ _
      | some ad =>
        by_cases hn0 : n = 0
        · subst hn0
          obtain rfl : k = 0 := by omega
          have hl0 : l1 = [] := List.eq_nil_of_length_eq_zero HLN.out
          have hif : ∀ (A B : Option Addr), (if c = 0 then A else B) = pkr c 0 A B := fun _ _ => rfl
          subst hl0
          go_wp2_with fail
          go_ret
          rw [HB.out]
          have R3 := (⟨heap_setCell_same _ _ _ _ _ _ R1.out.row, ⟨rfl, Nat.zero_le _, by unfold maxLen; omega, fun i hi => by omega, (by simp), fun e => by cases e⟩, (fun q _ hn => by omega), (fun q _ => .inr (by decide))⟩ : RRdr (w1.setCell ⟨h, 0, none⟩ (.slice (some ad) 0 c)) h (some ad) 0 c [] 0)
          have hG3 := G1.out.trans (rcell_grown w1 h 0 (.slice (some ad) 0 c))
          refine ⟨hG3.trans (below_grown ((Below.refl _ _).alloc (Nat.le_refl _) _) R3.lt), ⟨_, _, _, R3.below ((Below.refl _ _).alloc (Nat.le_refl _) _)⟩, _, rfl, ?_⟩
          exact Owns.empty _ _ _ _ _ _
        · obtain ⟨b, o, hbo, _⟩ := R1.out.rd.cell 0 (by omega)
          injection hbo with hbo
          subst hbo
          have hbh : b < h := R1.out.lo _ rfl (by omega)
          have hif : ∀ (A B : Option Addr), (if c = k then A else B) = pkr c k A B := fun _ _ => rfl
          go_wp2_with (at_builtin; refine app_all u8T u8I (by decide) rfl (.tmp 25) (.tmp 31) rfl _ w.heap.size _ [] rfl (Owns.empty _ _ _ _ _ _) _ _ _ (l1.take k) rfl (HRT.out.below ((Below.refl _ _).alloc (Nat.le_refl _) _)) (by simp; omega) (by simp; omega) ?_; intro x3 w3 ho3 hg3; obtain ⟨a3, k3, hx3⟩ := ho3.shapeN k (by rw [List.nil_append, List.length_take, HLN.out]; omega); subst hx3; have hb3 := hg3.fromEmpty; have R3 := Lib.hid (R1.out.below hb3); have O3 := Lib.hid ho3; have B3 := Lib.hid hb3; clear hb3 hg3 ho3 y0 y1 yf; obtain ⟨y0, y1, yf⟩ := R3.out.cells)
          go_ret
          rw [HB.out]
          have hG3 : w.grownBy w3 (some h) := G1.out.trans (below_grown B3.out R1.out.lt)
          refine ⟨hG3.trans (rcell_grown _ _ _ _), ⟨_, _, _, R3.out.setB (rd_pkr R3.out.rd k (by omega)) (fun q hq _ => by rw [pkr_block hq]; exact hbh) (fun q hq => pkr_spot hq)⟩, _, rfl, ?_⟩
          have ho := O3.out
          rw [List.nil_append] at ho
          exact ho.grown (rcell_grown w3 h 0 (.slice (pkr c k (some ⟨b, o, none⟩) (some ⟨b, o + k, none⟩)) (n - k) (c - k))) (fun g hg' e => by have h1 := (ho.at_base g hg').1; injection e with e; omega)
  · have HB : Hid (byt ⟨E, V, l1⟩ = ⟨E, [], l1⟩) := by show _ = _; unfold byt; rw [if_pos hE]
    have HE := Lib.hid hE
    clear hV hE
    go_enter Try.func56, Try.ntmps56
    go_wp2_with fail
    refine HC.out.mono ?_
    rintro e w1 ⟨hg, hr, V', rfl, _⟩
    rw [show decide ((⟨E, V, l1⟩ : Rd Int).e = 0) = false from decide_eq_false HE.out]
    have R1 := Lib.hid hr
    have G1 := Lib.hid hg
    clear hr hg
    go_wp2_with fail
    go_ret
    rw [HB.out]
    exact ⟨G1.out, R1.out, _, rfl, Owns.nil _ _ _ _⟩
def lst (T : Rd Int) : Rd (List Int) := if T.e ≠ 0 then ⟨T.e, [], T.l⟩ else rdInts T.v.toNat T.l
theorem lst_eq (e0 most : Int) (l : List Int) : rdFrom e0 [] l (rdList most l) = lst (rdFrom e0 0 l (rdBetween 0 most l)) := by
  by_cases h0 : e0 = 0
  · subst h0
    rw [rdFrom_ok, rdFrom_ok]
    rfl
  · rw [rdFrom_bad _ _ _ h0, rdFrom_bad _ _ _ h0]
    unfold lst
    rw [if_pos h0]
theorem accR_nil (k : Nat) (l : List Int) : accR [] (rdInts k l) = rdInts k l := by
  have := rdInts_z k l
  unfold accR
  generalize rdInts k l = q at *
  obtain ⟨e, v, l'⟩ := q
  by_cases he : e = 0
  · subst he
    rw [if_neg (by simp), List.nil_append]
  · rw [if_pos he]
    have h1 : v = [] := this he
    rw [h1]
theorem btw_hi {most V : Int} {T : Rd Int} {l : List Int} (hT : T.v ≤ 9223372036854775807) (h : rbtw 0 most T = ⟨0, V, l⟩) : V ≤ 9223372036854775807 := by
  unfold rbtw at h
  split at h
  · rename_i h1
    injection h with h2 _ _
    exact absurd h2 h1
  · split at h
    · injection h with h2 _ _
      cases h2
    · rw [h] at hT
      exact hT
end Go.Proofs.Ytcbnebcooiagmaa
namespace Go.Proofs.Ytcbnebcooiagmaa
open Go.RowKit
/-- Decode's memory: the result's cells, the block's, and the bytes that are read. -/
structure DecSt (T : TypeId) (w0 w : World) (rb bb : Nat) (row : Array Value) (g n c : Nat) (x : List Int) : Prop where
  res : w.heap[rb]? = some (.cells #[.int .u64 0, .int .i64 0, .int .i64 0, .int .i64 0, .int .i64 0, .int .i64 0, .int .i64 0, .int .i64 0, .int .i64 0, .int .i64 0, .int .i64 0, .int .i64 0, .int .u64 0] T (0, 0))
  blk : w.heap[bb]? = some (.cells row T (0, 0))
  rd : RdAt .u8 w (some ⟨g, 0, none⟩) n c x
  below : Below rb w0 w
  lt : rb < g ∧ g < bb
theorem DecSt.bbLt {T : TypeId} {w0 w : World} {rb bb : Nat} {row : Array Value} {g n c : Nat} {x : List Int} (d : DecSt T w0 w rb bb row g n c x) : bb < w.heap.size := (Array.getElem?_eq_some_iff.1 d.blk).1
theorem DecSt.next {T : TypeId} {w0 w w' : World} {rb bb : Nat} {row : Array Value} {g n c : Nat} {x : List Int} (d : DecSt T w0 w rb bb row g n c x) (hb : Below w.heap.size w w') : DecSt T w0 w' rb bb row g n c x :=
  ⟨row_keep d.res hb, row_keep d.blk hb, d.rd.below hb, d.below.trans (hb.mono (by have := d.lt; have := d.bbLt; omega)), d.lt⟩
theorem DecSt.apart {T : TypeId} {w0 w w' : World} {rb bb h : Nat} {row : Array Value} {g n c : Nat} {x : List Int} (d : DecSt T w0 w rb bb row g n c x) (hg : w.grownBy w' (some h)) (hh : bb < h) : DecSt T w0 w' rb bb row g n c x := by
  have h1 := d.lt
  have h2 := d.bbLt
  exact ⟨(hg.block rb (by omega) (fun e => by injection e with e; omega)).trans d.res, (hg.block bb h2 (fun e => by injection e with e; omega)).trans d.blk, d.rd.grown hg (fun q hq e => by injection hq with hq; rw [← hq] at e; injection e with e; have e2 : g = h := e; omega), d.below.grown hg (by omega) (fun k hk => by injection hk with hk; omega), h1⟩
theorem DecSt.set {T : TypeId} {w0 w : World} {rb bb : Nat} {row : Array Value} {g n c : Nat} {x : List Int} (d : DecSt T w0 w rb bb row g n c x) (L : List (Nat × Value)) : DecSt T w0 (sets w bb L) rb bb (L.foldl (fun c p => c.setIfInBounds p.1 p.2) row) g n c x := by
  have h1 := d.lt
  have h2 := d.bbLt
  have hg := sets_grown (b := bb) L w
  exact ⟨(hg.block rb (by omega) (fun e => by injection e with e; omega)).trans d.res, sets_row L d.blk, d.rd.grown hg (fun q hq e => by injection hq with hq; rw [← hq] at e; injection e with e; have e2 : g = bb := e; omega), d.below.grown hg (by omega) (fun k hk => by injection hk with hk; omega), h1⟩
theorem fold9 (x0 x1 x2 x3 x4 x5 x6 x7 x8 x9 x10 x11 x12 y1 y2 y3 y4 y5 y6 y7 y8 y9 : Value) : List.foldl (fun (c : Array Value) (p : Nat × Value) => c.setIfInBounds p.1 p.2) #[x0, x1, x2, x3, x4, x5, x6, x7, x8, x9, x10, x11, x12] [(1, y1), (2, y2), (3, y3), (4, y4), (5, y5), (6, y6), (7, y7), (8, y8), (9, y9)] = #[x0, y1, y2, y3, y4, y5, y6, y7, y8, y9, x10, x11, x12] := by
  simp only [List.foldl_cons, List.foldl_nil, List.setIfInBounds_toArray, List.set_cons_zero, List.set_cons_succ]
theorem fold13 (x0 x1 x2 x3 x4 x5 x6 x7 x8 x9 x10 x11 x12 y0 y1 y2 y3 y4 y5 y6 y7 y8 y9 y10 y11 y12 : Value) : List.foldl (fun (c : Array Value) (p : Nat × Value) => c.setIfInBounds p.1 p.2) #[x0, x1, x2, x3, x4, x5, x6, x7, x8, x9, x10, x11, x12] [(0, y0), (1, y1), (2, y2), (3, y3), (4, y4), (5, y5), (6, y6), (7, y7), (8, y8), (9, y9), (10, y10), (11, y11), (12, y12)] = #[y0, y1, y2, y3, y4, y5, y6, y7, y8, y9, y10, y11, y12] := by
  simp only [List.foldl_cons, List.foldl_nil, List.setIfInBounds_toArray, List.set_cons_zero, List.set_cons_succ]
/-- The result laid in its cells. -/
theorem res_end {T : TypeId} {w0 w : World} {rb : Nat} (hr : w.heap[rb]? = some (.cells #[.int .u64 0, .int .i64 0, .int .i64 0, .int .i64 0, .int .i64 0, .int .i64 0, .int .i64 0, .int .i64 0, .int .i64 0, .int .i64 0, .int .i64 0, .int .i64 0, .int .u64 0] T (0, 0))) (hb : Below rb w0 w) (L : List (Nat × Value)) : (sets w rb L).heap[rb]? = some (.cells (L.foldl (fun c p => c.setIfInBounds p.1 p.2) #[.int .u64 0, .int .i64 0, .int .i64 0, .int .i64 0, .int .i64 0, .int .i64 0, .int .i64 0, .int .i64 0, .int .i64 0, .int .i64 0, .int .i64 0, .int .i64 0, .int .u64 0]) T (0, 0)) ∧ Below rb w0 (sets w rb L) :=
  ⟨sets_row L hr, hb.grown (sets_grown L w) (Nat.le_of_lt (Array.getElem?_eq_some_iff.1 hr).1) (fun k hk => by injection hk with hk; omega)⟩
theorem rdBytes_vlen (m : Int) (l : List Int) : (rdBytes m l).v.length ≤ l.length := by
  have h1 := btw_len 0 0 m l
  rw [rdFrom_ok] at h1
  unfold rdBytes
  split
  · exact Nat.zero_le _
  · split
    · exact Nat.zero_le _
    · exact Nat.le_trans (by rw [List.length_take]; omega) h1
theorem supDE_long {s : List Int} (h : 64 ≤ s.length) (ho : openOk s = true) : supDE s = if decB (dT 256 (front s)).v = true ∧ sameB (dB 256 (front s)) s = true then 0 else 22 := by
  unfold supDE
  rw [if_neg (by rw [ho]; simp; omega)]
theorem refDE_long {s : List Int} (h : 64 ≤ s.length) (ho : openOk s = true) : refDE s = if (front s).take 8 = magicL ∧ (dI2 (front s).length (front s)).e = 0 ∧ decB (dT (front s).length (front s)).v = true ∧ sameB (dB (front s).length (front s)) s = true then 0 else 22 := by
  unfold refDE
  rw [if_neg (by rw [ho]; simp; omega)]
set_option linter.unusedSimpArgs false in
set_option linter.unusedVariables false in
set_option maxRecDepth 100000 in
set_option maxHeartbeats 8000000 in
theorem supdec_short (a : Option Addr) (n c : Nat) (s : List Int) (w : World) (hr : RdAt .u8 w a n c s) (hn : n ≤ 100000) (h : n < 64) :
    Calls Try.prog 12 #[.slice a n c] w fun e w' => e = .returned (.tuple #[(supD s).val, .int .i64 (supDE s)]) ∧ Below w.heap.size w w' := by
  have hE : supDE s = 23 := by unfold supDE; rw [if_pos (.inl (by rw [hr.len]; exact h))]
  have hD : supD s = blk0 := by unfold supD; rw [if_neg (by rw [hE]; decide)]
  rw [hE, hD]
  clear hE hD hr
  go_enter Try.func12, Try.ntmps12
  go_wp2_with fail
  refine bodyPost_ret (v := .tuple #[.agg #[.int .u64 0, .int .i64 0, .int .i64 0, .int .i64 0, .int .i64 0, .int .i64 0, .int .i64 0, .int .i64 0, .int .i64 0, .int .i64 0, .int .i64 0, .int .i64 0, .int .u64 0], .int .i64 23]) (by simp [results, Try.results12, go_sem]) rfl ⟨rfl, (Below.refl _ _).alloc (Nat.le_refl _) _⟩
set_option linter.unusedSimpArgs false in
set_option linter.unusedVariables false in
set_option maxRecDepth 100000 in
set_option maxHeartbeats 8000000 in
theorem supdec_unsealed (a : Option Addr) (n c : Nat) (s : List Int) (w : World) (hr : RdAt .u8 w a n c s) (hn : n ≤ 100000) (h : 64 ≤ n) (ho : openOk s = false) :
    Calls Try.prog 12 #[.slice a n c] w fun e w' => e = .returned (.tuple #[(supD s).val, .int .i64 (supDE s)]) ∧ Below w.heap.size w w' := by
  have hE : supDE s = 23 := by unfold supDE; rw [if_pos (.inr ho)]
  have hD : supD s = blk0 := by unfold supD; rw [if_neg (by rw [hE]; decide)]
  have hoe : openE s = 23 := by unfold openE; rw [if_neg (by rw [hr.len]; omega), if_neg (by rw [ho]; decide)]
  have hol : openL s = [] := by unfold openL; rw [if_neg (by rw [ho]; decide)]
  have HOE := Lib.hid hoe
  have HOL := Lib.hid hol
  rw [hE, hD]
  clear hE hD hoe hol ho
  have hba : Below w.heap.size w (w.alloc (.cells #[.int .u64 0, .int .i64 0, .int .i64 0, .int .i64 0, .int .i64 0, .int .i64 0, .int .i64 0, .int .i64 0, .int .i64 0, .int .i64 0, .int .i64 0, .int .i64 0, .int .u64 0] 28)) := (Below.refl _ _).alloc (Nat.le_refl _) _
  have hrow := heap_alloc_new w (.cells #[.int .u64 0, .int .i64 0, .int .i64 0, .int .i64 0, .int .i64 0, .int .i64 0, .int .i64 0, .int .i64 0, .int .i64 0, .int .i64 0, .int .i64 0, .int .i64 0, .int .u64 0] 28)
  have hr1 := hr.below hba
  have hrb0 := fun w' (b : Below w.heap.size w w') => hr.below b
  obtain ⟨rb, hrb⟩ : ∃ rb, w.heap.size = rb := ⟨_, rfl⟩
  obtain ⟨wa, hwa⟩ : ∃ wa, w.alloc (.cells #[.int .u64 0, .int .i64 0, .int .i64 0, .int .i64 0, .int .i64 0, .int .i64 0, .int .i64 0, .int .i64 0, .int .i64 0, .int .i64 0, .int .i64 0, .int .i64 0, .int .u64 0] 28) = wa := ⟨_, rfl⟩
  rw [hwa, hrb] at hba hrow
  rw [hwa] at hr1
  rw [hrb] at hrb0
  have HBA := Lib.hid hba
  have HROW := Lib.hid hrow
  have HRB := Lib.hid hrb
  have HWA := Lib.hid hwa
  have HR1 := Lib.hid hr1
  have HS := Lib.hid hrb0
  have HLEN := Lib.hid hr.len
  have hlt : rb < wa.heap.size := (Array.getElem?_eq_some_iff.1 hrow).1
  clear hba hrow hrb hwa hr1 hrb0 hr
  go_enter Try.func12, Try.ntmps12
  go_wp2_with fail
  rw [HWA.out, HRB.out]
  refine (open_any a n c s wa HR1.out (by omega)).mono ?_
  rintro e w1 ⟨v1, rfl, ho1, hb1⟩
  rw [HOE.out]
  rw [HOL.out] at ho1
  obtain ⟨a1, c1, rfl⟩ := ho1.shapeN 0 rfl
  have ROW1 := Lib.hid (row_keep HROW.out hb1)
  have B1 := Lib.hid (Below.trans HBA.out (hb1.mono (Nat.le_of_lt hlt)))
  clear ho1 hb1
  obtain ⟨r0, r1, r2, r3, r4, r5, r6, r7, r8, r9, r10, r11, r12⟩ := cells13 ROW1.out
  have hrf : ∀ i, w1.frozen? ⟨rb, i, none⟩ = false := fun i => frozen_of_row w1 rb i _ _ ROW1.out
  go_wp2_with fail
  change bodyPost _ _ _ _ _ (sets w1 rb [(0, .int .u64 0), (1, .int .i64 0), (2, .int .i64 0), (3, .int .i64 0), (4, .int .i64 0), (5, .int .i64 0), (6, .int .i64 0), (7, .int .i64 0), (8, .int .i64 0), (9, .int .i64 0), (10, .int .i64 0), (11, .int .i64 0), (12, .int .u64 0)])
  obtain ⟨hrow, hbel⟩ := res_end ROW1.out B1.out [(0, .int .u64 0), (1, .int .i64 0), (2, .int .i64 0), (3, .int .i64 0), (4, .int .i64 0), (5, .int .i64 0), (6, .int .i64 0), (7, .int .i64 0), (8, .int .i64 0), (9, .int .i64 0), (10, .int .i64 0), (11, .int .i64 0), (12, .int .u64 0)]
  generalize sets w1 rb [(0, .int .u64 0), (1, .int .i64 0), (2, .int .i64 0), (3, .int .i64 0), (4, .int .i64 0), (5, .int .i64 0), (6, .int .i64 0), (7, .int .i64 0), (8, .int .i64 0), (9, .int .i64 0), (10, .int .i64 0), (11, .int .i64 0), (12, .int .u64 0)] = w9 at *
  rw [fold13] at hrow
  clear r0 r1 r2 r3 r4 r5 r6 r7 r8 r9 r10 r11 r12 hrf
  obtain ⟨r0, r1, r2, r3, r4, r5, r6, r7, r8, r9, r10, r11, r12⟩ := cells13 hrow
  refine bodyPost_ret (v := .tuple #[.agg #[.int .u64 0, .int .i64 0, .int .i64 0, .int .i64 0, .int .i64 0, .int .i64 0, .int .i64 0, .int .i64 0, .int .i64 0, .int .i64 0, .int .i64 0, .int .i64 0, .int .u64 0], .int .i64 23]) (by simp [results, Try.results12, go_sem, r0, r1, r2, r3, r4, r5, r6, r7, r8, r9, r10, r11, r12]) rfl ?_
  rw [HRB.out]
  exact ⟨rfl, hbel⟩
set_option linter.unusedSimpArgs false in
set_option linter.unusedVariables false in
set_option maxRecDepth 100000 in
set_option maxHeartbeats 8000000 in
theorem supdec_long (a : Option Addr) (n c : Nat) (s : List Int) (w : World) (hr : RdAt .u8 w a n c s) (hn : n ≤ 100000) (h64 : 64 ≤ n) (ho : openOk s = true) :
    Calls Try.prog 12 #[.slice a n c] w fun e w' => e = .returned (.tuple #[(supD s).val, .int .i64 (supDE s)]) ∧ Below w.heap.size w w' := by
  have hoe : openE s = 0 := by unfold openE; rw [if_neg (by rw [hr.len]; omega), if_pos ho]
  have hol : openL s = front s := by unfold openL; rw [if_pos ho]; rfl
  have hbs := hr.bytes
  have HBS := Lib.hid hbs
  have HOK := Lib.hid ho
  have HOE := Lib.hid hoe
  have HOL := Lib.hid hol
  clear hoe hol ho hbs
  have hba : Below w.heap.size w (w.alloc (.cells #[.int .u64 0, .int .i64 0, .int .i64 0, .int .i64 0, .int .i64 0, .int .i64 0, .int .i64 0, .int .i64 0, .int .i64 0, .int .i64 0, .int .i64 0, .int .i64 0, .int .u64 0] 28)) := (Below.refl _ _).alloc (Nat.le_refl _) _
  have hrow := heap_alloc_new w (.cells #[.int .u64 0, .int .i64 0, .int .i64 0, .int .i64 0, .int .i64 0, .int .i64 0, .int .i64 0, .int .i64 0, .int .i64 0, .int .i64 0, .int .i64 0, .int .i64 0, .int .u64 0] 28)
  have hr1 := hr.below hba
  have hrb0 := fun w' (b : Below w.heap.size w w') => hr.below b
  obtain ⟨rb, hrb⟩ : ∃ rb, w.heap.size = rb := ⟨_, rfl⟩
  obtain ⟨wa, hwa⟩ : ∃ wa, w.alloc (.cells #[.int .u64 0, .int .i64 0, .int .i64 0, .int .i64 0, .int .i64 0, .int .i64 0, .int .i64 0, .int .i64 0, .int .i64 0, .int .i64 0, .int .i64 0, .int .i64 0, .int .u64 0] 28) = wa := ⟨_, rfl⟩
  rw [hwa, hrb] at hba hrow
  rw [hwa] at hr1
  rw [hrb] at hrb0
  have HBA := Lib.hid hba
  have HROW := Lib.hid hrow
  have HRB := Lib.hid hrb
  have HWA := Lib.hid hwa
  have HR1 := Lib.hid hr1
  have HS := Lib.hid hrb0
  have HLEN := Lib.hid hr.len
  have hlt : rb < wa.heap.size := (Array.getElem?_eq_some_iff.1 hrow).1
  clear hba hrow hrb hwa hr1 hrb0 hr
  obtain ⟨x, hx⟩ : ∃ x, front s = x := ⟨_, rfl⟩
  obtain ⟨nx, hnx⟩ : ∃ nx, n - 4 = nx := ⟨_, rfl⟩
  have hxl : x.length = nx := by rw [← hx]; unfold front; rw [List.length_take, HLEN.out]; omega
  have hbx : Bytes x := by rw [← hx]; exact front_bytes HBS.out
  have HX := Lib.hid hx
  have HXL := Lib.hid hxl
  have HBX := Lib.hid hbx
  have hn60 : 60 ≤ nx := by omega
  have hn61 : nx ≤ 100000 := by omega
  clear hx hnx hxl hbx
  go_enter Try.func12, Try.ntmps12
  go_wp2_with fail
  rw [HWA.out, HRB.out]
  refine (open_any a n c s wa HR1.out (by omega)).mono ?_
  rintro e w1 ⟨v1, rfl, ho1, hb1⟩
  rw [HOE.out]
  rw [HOL.out, HX.out] at ho1
  obtain ⟨a1, cx, rfl⟩ := ho1.shapeN nx HXL.out
  obtain ⟨gx, rfl, hgx1, hgx2, _, _⟩ := ho1.cellAt 0 (by rw [HXL.out]; omega)
  have hcx := ho1.rd.cap
  have hmx := ho1.rd.max
  unfold maxLen at hmx
  have h8 : ¬ cx = 8 := by omega
  have h16 : ¬ cx = 16 := by omega
  have h24 : ¬ cx = 24 := by omega
  obtain ⟨bb, hbb⟩ : ∃ bb, w1.heap.size = bb := ⟨_, rfl⟩
  have ST0 : Hid (DecSt 28 w (w1.alloc (.cells #[.int .u64 0, .int .i64 0, .int .i64 0, .int .i64 0, .int .i64 0, .int .i64 0, .int .i64 0, .int .i64 0, .int .i64 0, .int .i64 0, .int .i64 0, .int .i64 0, .int .u64 0] 28)) rb bb #[.int .u64 0, .int .i64 0, .int .i64 0, .int .i64 0, .int .i64 0, .int .i64 0, .int .i64 0, .int .i64 0, .int .i64 0, .int .i64 0, .int .i64 0, .int .i64 0, .int .u64 0] gx nx cx x) := by
    have hal := (Below.refl w1.heap.size w1).alloc (Nat.le_refl _) (.cells #[.int .u64 0, .int .i64 0, .int .i64 0, .int .i64 0, .int .i64 0, .int .i64 0, .int .i64 0, .int .i64 0, .int .i64 0, .int .i64 0, .int .i64 0, .int .i64 0, .int .u64 0] 28)
    refine ⟨row_keep (row_keep HROW.out hb1) hal, by rw [← hbb]; exact heap_alloc_new _ _, ho1.rd.below hal, Below.trans (Below.trans HBA.out (hb1.mono (Nat.le_of_lt hlt))) (hal.mono (by have := hb1.size; omega)), by omega⟩
  obtain ⟨w2, hw2⟩ : ∃ w2, w1.alloc (.cells #[.int .u64 0, .int .i64 0, .int .i64 0, .int .i64 0, .int .i64 0, .int .i64 0, .int .i64 0, .int .i64 0, .int .i64 0, .int .i64 0, .int .i64 0, .int .i64 0, .int .u64 0] 28) = w2 := ⟨_, rfl⟩
  rw [hw2] at ST0
  have HBB := Lib.hid hbb
  have HW2 := Lib.hid hw2
  clear hbb hw2 ho1 hb1 hgx1
  obtain ⟨EP, hEP⟩ : ∃ EP, getK (x.drop 8) 8 = EP := ⟨_, rfl⟩
  obtain ⟨SQ, hSQ⟩ : ∃ SQ, getK (x.drop 16) 8 = SQ := ⟨_, rfl⟩
  have HG8 : Hid (getV (x.drop 8) (nx - 8) 8 = EP) := by show _ = _; unfold getV getOk; rw [if_pos (by simp; omega)]; exact hEP
  have HG16 : Hid (getV (x.drop 16) (nx - 16) 8 = SQ) := by show _ = _; unfold getV getOk; rw [if_pos (by simp; omega)]; exact hSQ
  have HEP := Lib.hid hEP
  have HSQ := Lib.hid hSQ
  clear hEP hSQ
  go_wp2_with fail
  rw [HW2.out, HBB.out]
  refine (get_any (some ⟨gx, 8, none⟩) (nx - 8) (cx - 8) _ 8 w2 (show RdAt .u8 w2 (some ⟨gx, 8, none⟩) (nx - 8) (cx - 8) (x.drop 8) by have := ST0.out.rd.drop 8 (by omega); simpa using this)).mono ?_
  rintro e w' ⟨rfl, rfl⟩
  rw [HG8.out]
  obtain ⟨q0, q1, q2, q3, q4, q5, q6, q7, q8, q9, q10, q11, q12⟩ := cells13 ST0.out.blk
  have hbf : ∀ i, w2.frozen? ⟨bb, i, none⟩ = false := fun i => frozen_of_row w2 bb i _ _ ST0.out.blk
  go_wp2_with fail
  clear q0 q1 q2 q3 q4 q5 q6 q7 q8 q9 q10 q11 q12 hbf
  have ST1 : Hid (DecSt 28 w (sets w2 bb [(0, .int .u64 EP)]) rb bb #[.int .u64 EP, .int .i64 0, .int .i64 0, .int .i64 0, .int .i64 0, .int .i64 0, .int .i64 0, .int .i64 0, .int .i64 0, .int .i64 0, .int .i64 0, .int .i64 0, .int .u64 0] gx nx cx x) := ST0.out.set [(0, .int .u64 EP)]
  obtain ⟨w3, hw3⟩ : ∃ w3, sets w2 bb [(0, .int .u64 EP)] = w3 := ⟨_, rfl⟩
  rw [hw3] at ST1
  have HW3 := Lib.hid hw3
  clear hw3
  change Calls _ _ _ (sets w2 bb [(0, .int .u64 EP)]) _
  rw [HW3.out]
  refine (get_any (some ⟨gx, 16, none⟩) (nx - 16) (cx - 16) _ 8 w3 (show RdAt .u8 w3 (some ⟨gx, 16, none⟩) (nx - 16) (cx - 16) (x.drop 16) by have := ST1.out.rd.drop 16 (by omega); simpa using this)).mono ?_
  rintro e w' ⟨rfl, rfl⟩
  rw [HG16.out]
  obtain ⟨q0, q1, q2, q3, q4, q5, q6, q7, q8, q9, q10, q11, q12⟩ := cells13 ST1.out.blk
  have hbf : ∀ i, w3.frozen? ⟨bb, i, none⟩ = false := fun i => frozen_of_row w3 bb i _ _ ST1.out.blk
  go_wp2_with fail
  clear q0 q1 q2 q3 q4 q5 q6 q7 q8 q9 q10 q11 q12 hbf
  have ST2 : Hid (DecSt 28 w (sets w3 bb [(12, .int .u64 SQ)]) rb bb #[.int .u64 EP, .int .i64 0, .int .i64 0, .int .i64 0, .int .i64 0, .int .i64 0, .int .i64 0, .int .i64 0, .int .i64 0, .int .i64 0, .int .i64 0, .int .i64 0, .int .u64 SQ] gx nx cx x) := ST1.out.set [(12, .int .u64 SQ)]
  obtain ⟨w4, hw4⟩ : ∃ w4, sets w3 bb [(12, .int .u64 SQ)] = w4 := ⟨_, rfl⟩
  rw [hw4] at ST2
  have HW4 := Lib.hid hw4
  clear hw4
  change Calls _ _ _ (sets w3 bb [(12, .int .u64 SQ)]) _
  rw [HW4.out]
  refine (newreader_any (some ⟨gx, 24, none⟩) (nx - 24) (cx - 24) (x.drop 24) w4 (show RdAt .u8 w4 (some ⟨gx, 24, none⟩) (nx - 24) (cx - 24) (x.drop 24) by have := ST2.out.rd.drop 24 (by omega); simpa using this) (by omega)).mono ?_
  rintro e w5 ⟨h, rfl, hh, hr5, hb5⟩
  have ST3 := Lib.hid (ST2.out.next hb5)
  have HBH : Hid (bb < h) := Nat.lt_of_lt_of_le ST2.out.bbLt hh
  obtain ⟨Bq, hBq⟩ : ∃ B, w4.heap.size = B := ⟨_, rfl⟩
  rw [hBq] at hr5
  have R5 := Lib.hid hr5
  clear hb5 hr5 hh hBq
  go_wp2_with fail
  refine (rBytes_any h 256 (x.drop 24) 0 w5 R5.out (by rw [List.length_drop, HXL.out]; omega)).mono ?_
  rintro e w6 ⟨hg6, hr6, v6, rfl, ho6⟩
  obtain ⟨⟨E1, SH, l1⟩, hT1⟩ : ∃ T, rdFrom 0 [] (x.drop 24) (rdBytes 256 (x.drop 24)) = T := ⟨_, rfl⟩
  rw [hT1] at hr6 ho6
  have hshl : SH.length ≤ 100000 := by
    have h1 := rdBytes_vlen 256 (x.drop 24)
    rw [rdFrom_ok] at hT1
    rw [hT1, List.length_drop, HXL.out] at h1
    have h2 : SH.length ≤ nx - 24 := h1
    omega
  obtain ⟨ns, hns⟩ : ∃ ns, SH.length = ns := ⟨_, rfl⟩
  replace ho6 : Owns .u8 5 w6 w5.heap.size v6 SH := ho6
  obtain ⟨ash, csh, rfl⟩ := ho6.shapeN ns hns
  rw [hns] at hshl
  have HT1 := Lib.hid hT1
  have ST4 := Lib.hid (ST3.out.apart hg6 HBH.out)
  have R6 := Lib.hid hr6
  have O6 := Lib.hid ho6
  have HHL : Hid (h < w5.heap.size) := R5.out.lt
  clear hg6 hr6 ho6 hT1 hns
  go_wp2_with fail
  refine (rInt_any h l1 E1 w6 R6.out).mono ?_
  rintro e w7 ⟨hg7, hr7, v7, rfl, hv7⟩
  obtain ⟨⟨E2, V1, l2⟩, hT2⟩ : ∃ T, rdFrom E1 0 l1 (rdInt l1) = T := ⟨_, rfl⟩
  rw [hT2] at hr7 hv7
  replace hv7 : v7 = .int .i64 V1 := hv7
  subst hv7
  have HT2 := Lib.hid hT2
  have ST5 := Lib.hid (ST4.out.apart hg7 HBH.out)
  have R7 := Lib.hid hr7
  have O7 := Lib.hid (O6.out.grown hg7 (fun g hg e => by have h1 := (O6.out.at_base g hg).1; have h2 := HHL.out; injection e with e; omega))
  clear hg7 hr7 hT2
  go_wp2_with fail
  refine (rInt_any h l2 E2 w7 R7.out).mono ?_
  rintro e w8 ⟨hg8, hr8, v8, rfl, hv8⟩
  obtain ⟨⟨E3, V2, l3⟩, hT3⟩ : ∃ T, rdFrom E2 0 l2 (rdInt l2) = T := ⟨_, rfl⟩
  rw [hT3] at hr8 hv8
  replace hv8 : v8 = .int .i64 V2 := hv8
  subst hv8
  have HT3 := Lib.hid hT3
  have ST6 := Lib.hid (ST5.out.apart hg8 HBH.out)
  have O8 := Lib.hid (O7.out.grown hg8 (fun g hg e => by have h1 := (O7.out.at_base g hg).1; have h2 := HHL.out; injection e with e; omega))
  clear hg8 hr8 hT3 R6 R7 O6 O7
  obtain ⟨q0, q1, q2, q3, q4, q5, q6, q7, q8, q9, q10, q11, q12⟩ := cells13 ST6.out.blk
  have hbf : ∀ i, w8.frozen? ⟨bb, i, none⟩ = false := fun i => frozen_of_row w8 bb i _ _ ST6.out.blk
  go_wp2_with fail
  clear q0 q1 q2 q3 q4 q5 q6 q7 q8 q9 q10 q11 q12 hbf
  have ST7 : Hid (DecSt 28 w (sets w8 bb [(10, .int .i64 V1), (11, .int .i64 V2)]) rb bb #[.int .u64 EP, .int .i64 0, .int .i64 0, .int .i64 0, .int .i64 0, .int .i64 0, .int .i64 0, .int .i64 0, .int .i64 0, .int .i64 0, .int .i64 V1, .int .i64 V2, .int .u64 SQ] gx nx cx x) := ST6.out.set [(10, .int .i64 V1), (11, .int .i64 V2)]
  obtain ⟨w9, hw9⟩ : ∃ w9, sets w8 bb [(10, .int .i64 V1), (11, .int .i64 V2)] = w9 := ⟨_, rfl⟩
  rw [hw9] at ST7
  have HW9 := Lib.hid hw9
  clear hw9
  change Calls _ _ _ (sets w8 bb [(10, .int .i64 V1), (11, .int .i64 V2)]) _
  have O9 : Hid (Owns .u8 5 w9 w5.heap.size (.slice ash ns csh) SH) := by
    show Owns _ _ _ _ _ _
    rw [← HW9.out]
    exact O8.out.grown (sets_grown _ _) (fun g hg e => by have h1 := (O8.out.at_base g hg).1; have h2 := HHL.out; have h3 := HBH.out; injection e with e; omega)
  rw [HW9.out]
  refine (gdec_any ash ns csh SH w9 O9.out.rd hshl).mono ?_
  rintro e w10 ⟨rfl, hb10⟩
  have ST8 := Lib.hid (ST7.out.next hb10)
  clear hb10 O8 O9
  have hl8 := ST8.out.lt
  have hne1 : ¬ bb = rb := by omega
  have hne2 : ¬ rb = bb := by omega
  clear hl8
  obtain ⟨q0, q1, q2, q3, q4, q5, q6, q7, q8, q9, q10, q11, q12⟩ := cells13 ST8.out.blk
  have hbf : ∀ i, w10.frozen? ⟨bb, i, none⟩ = false := fun i => frozen_of_row w10 bb i _ _ ST8.out.blk
  obtain ⟨r0, r1, r2, r3, r4, r5, r6, r7, r8, r9, r10, r11, r12⟩ := cells13 ST8.out.res
  have hrf : ∀ i, w10.frozen? ⟨rb, i, none⟩ = false := fun i => frozen_of_row w10 rb i _ _ ST8.out.res
  have hDT : dT 256 x = ⟨E1, SH, l1⟩ := HT1.out
  have hI1 : dI1 256 x = ⟨E2, V1, l2⟩ := by unfold dI1; rw [hDT]; exact HT2.out
  have hI2 : dI2 256 x = ⟨E3, V2, l3⟩ := by unfold dI2; rw [hI1]; exact HT3.out
  have hlong := supDE_long (s := s) (by rw [HLEN.out]; exact h64) HOK.out
  rw [HX.out, hDT] at hlong
  cases hdb : decB SH with
  | false =>
    have hE : supDE s = 22 := by rw [hlong]; exact if_neg (by rw [hdb]; simp)
    have hD : supD s = blk0 := by unfold supD; rw [if_neg (by rw [hE]; decide)]
    have hC : decC SH = .agg #[.int .i64 0, .int .i64 0, .int .i64 0, .int .i64 0, .int .i64 0, .int .i64 0, .int .i64 0, .int .i64 0, .int .i64 0] := by unfold decC; rw [if_neg (by rw [hdb]; decide)]
    have hN : decN SH = 22 := by unfold decN; rw [if_neg (by rw [hdb]; decide)]
    have HE := Lib.hid hE
    have HD := Lib.hid hD
    rw [hC, hN]
    clear hE hD hC hN hDT hI1 hI2 hlong hdb
    go_wp2_with fail
    change bodyPost _ _ _ _ _ (sets (sets w10 bb [(1, .int .i64 0), (2, .int .i64 0), (3, .int .i64 0), (4, .int .i64 0), (5, .int .i64 0), (6, .int .i64 0), (7, .int .i64 0), (8, .int .i64 0), (9, .int .i64 0)]) rb [(0, .int .u64 0), (1, .int .i64 0), (2, .int .i64 0), (3, .int .i64 0), (4, .int .i64 0), (5, .int .i64 0), (6, .int .i64 0), (7, .int .i64 0), (8, .int .i64 0), (9, .int .i64 0), (10, .int .i64 0), (11, .int .i64 0), (12, .int .u64 0)])
    have ST9 := Lib.hid (ST8.out.set [(1, .int .i64 0), (2, .int .i64 0), (3, .int .i64 0), (4, .int .i64 0), (5, .int .i64 0), (6, .int .i64 0), (7, .int .i64 0), (8, .int .i64 0), (9, .int .i64 0)])
    obtain ⟨hrow, hbel⟩ := res_end ST9.out.res ST9.out.below [(0, .int .u64 0), (1, .int .i64 0), (2, .int .i64 0), (3, .int .i64 0), (4, .int .i64 0), (5, .int .i64 0), (6, .int .i64 0), (7, .int .i64 0), (8, .int .i64 0), (9, .int .i64 0), (10, .int .i64 0), (11, .int .i64 0), (12, .int .u64 0)]
    generalize sets (sets w10 bb [(1, .int .i64 0), (2, .int .i64 0), (3, .int .i64 0), (4, .int .i64 0), (5, .int .i64 0), (6, .int .i64 0), (7, .int .i64 0), (8, .int .i64 0), (9, .int .i64 0)]) rb [(0, .int .u64 0), (1, .int .i64 0), (2, .int .i64 0), (3, .int .i64 0), (4, .int .i64 0), (5, .int .i64 0), (6, .int .i64 0), (7, .int .i64 0), (8, .int .i64 0), (9, .int .i64 0), (10, .int .i64 0), (11, .int .i64 0), (12, .int .u64 0)] = w19 at *
    rw [fold13] at hrow
    clear r0 r1 r2 r3 r4 r5 r6 r7 r8 r9 r10 r11 r12 q0 q1 q2 q3 q4 q5 q6 q7 q8 q9 q10 q11 q12 hrf hbf
    obtain ⟨r0, r1, r2, r3, r4, r5, r6, r7, r8, r9, r10, r11, r12⟩ := cells13 hrow
    refine bodyPost_ret (v := .tuple #[.agg #[.int .u64 0, .int .i64 0, .int .i64 0, .int .i64 0, .int .i64 0, .int .i64 0, .int .i64 0, .int .i64 0, .int .i64 0, .int .i64 0, .int .i64 0, .int .i64 0, .int .u64 0], .int .i64 22]) (by simp [results, Try.results12, go_sem, r0, r1, r2, r3, r4, r5, r6, r7, r8, r9, r10, r11, r12]) rfl ?_
    rw [HE.out, HD.out, HRB.out]
    exact ⟨rfl, hbel⟩
  | true =>
    have hwf := dB_wf HBX.out (m := 256) (by rw [hDT]; exact hdb)
    have hBK : dB 256 x = ⟨EP, decV SH 0, decV SH 1, decV SH 2, decV SH 3, decV SH 4, decV SH 5, decV SH 6, decV SH 7, decV SH 8, V1, V2, SQ⟩ := by
      unfold dB
      rw [hDT, hI1, hI2, HEP.out, HSQ.out]
    have hC : decC SH = .agg #[.int .i64 (decV SH 0), .int .i64 (decV SH 1), .int .i64 (decV SH 2), .int .i64 (decV SH 3), .int .i64 (decV SH 4), .int .i64 (decV SH 5), .int .i64 (decV SH 6), .int .i64 (decV SH 7), .int .i64 (decV SH 8)] := by unfold decC; rw [if_pos hdb]
    have hN : decN SH = 0 := by unfold decN; rw [if_pos hdb]
    rw [hC, hN]
    rw [hBK] at hlong hwf
    have hDD : supD s = if supDE s = 0 then ⟨EP, decV SH 0, decV SH 1, decV SH 2, decV SH 3, decV SH 4, decV SH 5, decV SH 6, decV SH 7, decV SH 8, V1, V2, SQ⟩ else blk0 := by unfold supD; rw [HX.out, hBK]
    generalize decV SH 0 = d0 at *
    generalize decV SH 1 = d1 at *
    generalize decV SH 2 = d2 at *
    generalize decV SH 3 = d3 at *
    generalize decV SH 4 = d4 at *
    generalize decV SH 5 = d5 at *
    generalize decV SH 6 = d6 at *
    generalize decV SH 7 = d7 at *
    generalize decV SH 8 = d8 at *
    have HWF := Lib.hid hwf
    have HDD := Lib.hid hDD
    have HLO : Hid (supDE s = if sameB ⟨EP, d0, d1, d2, d3, d4, d5, d6, d7, d8, V1, V2, SQ⟩ s = true then 0 else 22) := by
      show _ = _
      rw [hlong]
      simp only [hdb, true_and]
    clear hC hN hDT hI1 hI2 hlong hdb hBK hwf hDD
    go_wp2_with fail
    change Calls _ _ _ (sets w10 bb [(1, .int .i64 d0), (2, .int .i64 d1), (3, .int .i64 d2), (4, .int .i64 d3), (5, .int .i64 d4), (6, .int .i64 d5), (7, .int .i64 d6), (8, .int .i64 d7), (9, .int .i64 d8)]) _
    have ST9 := Lib.hid (ST8.out.set [(1, .int .i64 d0), (2, .int .i64 d1), (3, .int .i64 d2), (4, .int .i64 d3), (5, .int .i64 d4), (6, .int .i64 d5), (7, .int .i64 d6), (8, .int .i64 d7), (9, .int .i64 d8)])
    obtain ⟨w11, hw11⟩ : ∃ w11, sets w10 bb [(1, .int .i64 d0), (2, .int .i64 d1), (3, .int .i64 d2), (4, .int .i64 d3), (5, .int .i64 d4), (6, .int .i64 d5), (7, .int .i64 d6), (8, .int .i64 d7), (9, .int .i64 d8)] = w11 := ⟨_, rfl⟩
    rw [hw11] at ST9 ⊢
    have ST10 := ST9
    rw [fold9] at ST10
    clear r0 r1 r2 r3 r4 r5 r6 r7 r8 r9 r10 r11 r12 q0 q1 q2 q3 q4 q5 q6 q7 q8 q9 q10 q11 q12 hrf hbf hw11 ST9 ST8
    refine (supenc_any ⟨EP, d0, d1, d2, d3, d4, d5, d6, d7, d8, V1, V2, SQ⟩ w11 HWF.out).mono ?_
    rintro e w12 ⟨v12, rfl, ho12, hb12⟩
    obtain ⟨E5, hE5⟩ : ∃ E5, supE ⟨EP, d0, d1, d2, d3, d4, d5, d6, d7, d8, V1, V2, SQ⟩ = E5 := ⟨_, rfl⟩
    obtain ⟨n12, hn12⟩ : ∃ n12, (supV ⟨EP, d0, d1, d2, d3, d4, d5, d6, d7, d8, V1, V2, SQ⟩).length = n12 := ⟨_, rfl⟩
    obtain ⟨a12, c12, rfl⟩ := ho12.shapeN n12 hn12
    rw [hE5]
    have ST11 := Lib.hid (ST10.out.next hb12)
    have O12 := Lib.hid ho12.rd
    have HS12 := Lib.hid (HS.out w12 ST11.out.below)
    have HE5 := Lib.hid hE5
    clear ho12 hb12 hE5 hn12 ST10
    by_cases h5 : E5 = 0
    · subst h5
      obtain ⟨D, hD⟩ : ∃ D : Bool, decide (supV ⟨EP, d0, d1, d2, d3, d4, d5, d6, d7, d8, V1, V2, SQ⟩ = s) = D := ⟨_, rfl⟩
      have HSM : Hid (sameB ⟨EP, d0, d1, d2, d3, d4, d5, d6, d7, d8, V1, V2, SQ⟩ s = D) := by show _ = _; unfold sameB; rw [HE5.out, hD]; simp
      have heq := equal_any a12 n12 c12 _ a n c s w12 O12.out HS12.out
      rw [hD] at heq
      have HEQ := Lib.hid heq
      clear hD heq
      go_wp2_with fail
      refine HEQ.out.mono ?_
      rintro e w13 ⟨rfl, hb13⟩
      have ST12 := Lib.hid (ST11.out.next hb13)
      clear hb13
      cases D with
      | true =>
        have hE : supDE s = 0 := by rw [HLO.out, if_pos HSM.out]
        have hDf : supD s = ⟨EP, d0, d1, d2, d3, d4, d5, d6, d7, d8, V1, V2, SQ⟩ := by rw [HDD.out, if_pos hE]
        have HE := Lib.hid hE
        have HD := Lib.hid hDf
        clear hE hDf
        obtain ⟨q0, q1, q2, q3, q4, q5, q6, q7, q8, q9, q10, q11, q12⟩ := cells13 ST12.out.blk
        obtain ⟨r0, r1, r2, r3, r4, r5, r6, r7, r8, r9, r10, r11, r12⟩ := cells13 ST12.out.res
        have hrf : ∀ i, w13.frozen? ⟨rb, i, none⟩ = false := fun i => frozen_of_row w13 rb i _ _ ST12.out.res
        go_wp2_with fail
        change bodyPost _ _ _ _ _ (sets w13 rb [(0, .int .u64 EP), (1, .int .i64 d0), (2, .int .i64 d1), (3, .int .i64 d2), (4, .int .i64 d3), (5, .int .i64 d4), (6, .int .i64 d5), (7, .int .i64 d6), (8, .int .i64 d7), (9, .int .i64 d8), (10, .int .i64 V1), (11, .int .i64 V2), (12, .int .u64 SQ)])
        obtain ⟨hrow, hbel⟩ := res_end ST12.out.res ST12.out.below [(0, .int .u64 EP), (1, .int .i64 d0), (2, .int .i64 d1), (3, .int .i64 d2), (4, .int .i64 d3), (5, .int .i64 d4), (6, .int .i64 d5), (7, .int .i64 d6), (8, .int .i64 d7), (9, .int .i64 d8), (10, .int .i64 V1), (11, .int .i64 V2), (12, .int .u64 SQ)]
        generalize sets w13 rb [(0, .int .u64 EP), (1, .int .i64 d0), (2, .int .i64 d1), (3, .int .i64 d2), (4, .int .i64 d3), (5, .int .i64 d4), (6, .int .i64 d5), (7, .int .i64 d6), (8, .int .i64 d7), (9, .int .i64 d8), (10, .int .i64 V1), (11, .int .i64 V2), (12, .int .u64 SQ)] = w19 at *
        rw [fold13] at hrow
        clear r0 r1 r2 r3 r4 r5 r6 r7 r8 r9 r10 r11 r12 q0 q1 q2 q3 q4 q5 q6 q7 q8 q9 q10 q11 q12 hrf
        obtain ⟨r0, r1, r2, r3, r4, r5, r6, r7, r8, r9, r10, r11, r12⟩ := cells13 hrow
        refine bodyPost_ret (v := .tuple #[.agg #[.int .u64 EP, .int .i64 d0, .int .i64 d1, .int .i64 d2, .int .i64 d3, .int .i64 d4, .int .i64 d5, .int .i64 d6, .int .i64 d7, .int .i64 d8, .int .i64 V1, .int .i64 V2, .int .u64 SQ], .int .i64 0]) (by simp [results, Try.results12, go_sem, r0, r1, r2, r3, r4, r5, r6, r7, r8, r9, r10, r11, r12]) rfl ?_
        rw [HE.out, HD.out, HRB.out]
        exact ⟨rfl, hbel⟩
      | false =>
        have hE : supDE s = 22 := by rw [HLO.out, if_neg (by rw [HSM.out]; decide)]
        have hDf : supD s = blk0 := by rw [HDD.out, if_neg (by rw [hE]; decide)]
        have HE := Lib.hid hE
        have HD := Lib.hid hDf
        clear hE hDf
        obtain ⟨r0, r1, r2, r3, r4, r5, r6, r7, r8, r9, r10, r11, r12⟩ := cells13 ST12.out.res
        have hrf : ∀ i, w13.frozen? ⟨rb, i, none⟩ = false := fun i => frozen_of_row w13 rb i _ _ ST12.out.res
        go_wp2_with fail
        change bodyPost _ _ _ _ _ (sets w13 rb [(0, .int .u64 0), (1, .int .i64 0), (2, .int .i64 0), (3, .int .i64 0), (4, .int .i64 0), (5, .int .i64 0), (6, .int .i64 0), (7, .int .i64 0), (8, .int .i64 0), (9, .int .i64 0), (10, .int .i64 0), (11, .int .i64 0), (12, .int .u64 0)])
        obtain ⟨hrow, hbel⟩ := res_end ST12.out.res ST12.out.below [(0, .int .u64 0), (1, .int .i64 0), (2, .int .i64 0), (3, .int .i64 0), (4, .int .i64 0), (5, .int .i64 0), (6, .int .i64 0), (7, .int .i64 0), (8, .int .i64 0), (9, .int .i64 0), (10, .int .i64 0), (11, .int .i64 0), (12, .int .u64 0)]
        generalize sets w13 rb [(0, .int .u64 0), (1, .int .i64 0), (2, .int .i64 0), (3, .int .i64 0), (4, .int .i64 0), (5, .int .i64 0), (6, .int .i64 0), (7, .int .i64 0), (8, .int .i64 0), (9, .int .i64 0), (10, .int .i64 0), (11, .int .i64 0), (12, .int .u64 0)] = w9 at *
        rw [fold13] at hrow
        clear r0 r1 r2 r3 r4 r5 r6 r7 r8 r9 r10 r11 r12 hrf
        obtain ⟨r0, r1, r2, r3, r4, r5, r6, r7, r8, r9, r10, r11, r12⟩ := cells13 hrow
        refine bodyPost_ret (v := .tuple #[.agg #[.int .u64 0, .int .i64 0, .int .i64 0, .int .i64 0, .int .i64 0, .int .i64 0, .int .i64 0, .int .i64 0, .int .i64 0, .int .i64 0, .int .i64 0, .int .i64 0, .int .u64 0], .int .i64 22]) (by simp [results, Try.results12, go_sem, r0, r1, r2, r3, r4, r5, r6, r7, r8, r9, r10, r11, r12]) rfl ?_
        rw [HE.out, HD.out, HRB.out]
        exact ⟨rfl, hbel⟩
    · have h5b : (E5 != 0) = true := by simpa using h5
      have h5c : (E5 == 0) = false := by simpa using h5
      have hE : supDE s = 22 := by
        rw [HLO.out]
        refine if_neg ?_
        unfold sameB
        rw [HE5.out]
        simp [h5]
      have hDf : supD s = blk0 := by rw [HDD.out, if_neg (by rw [hE]; decide)]
      have HE := Lib.hid hE
      have HD := Lib.hid hDf
      clear hE hDf h5
      obtain ⟨r0, r1, r2, r3, r4, r5, r6, r7, r8, r9, r10, r11, r12⟩ := cells13 ST11.out.res
      have hrf : ∀ i, w12.frozen? ⟨rb, i, none⟩ = false := fun i => frozen_of_row w12 rb i _ _ ST11.out.res
      go_wp2_with fail
      change bodyPost _ _ _ _ _ (sets w12 rb [(0, .int .u64 0), (1, .int .i64 0), (2, .int .i64 0), (3, .int .i64 0), (4, .int .i64 0), (5, .int .i64 0), (6, .int .i64 0), (7, .int .i64 0), (8, .int .i64 0), (9, .int .i64 0), (10, .int .i64 0), (11, .int .i64 0), (12, .int .u64 0)])
      obtain ⟨hrow, hbel⟩ := res_end ST11.out.res ST11.out.below [(0, .int .u64 0), (1, .int .i64 0), (2, .int .i64 0), (3, .int .i64 0), (4, .int .i64 0), (5, .int .i64 0), (6, .int .i64 0), (7, .int .i64 0), (8, .int .i64 0), (9, .int .i64 0), (10, .int .i64 0), (11, .int .i64 0), (12, .int .u64 0)]
      generalize sets w12 rb [(0, .int .u64 0), (1, .int .i64 0), (2, .int .i64 0), (3, .int .i64 0), (4, .int .i64 0), (5, .int .i64 0), (6, .int .i64 0), (7, .int .i64 0), (8, .int .i64 0), (9, .int .i64 0), (10, .int .i64 0), (11, .int .i64 0), (12, .int .u64 0)] = w9 at *
      rw [fold13] at hrow
      clear r0 r1 r2 r3 r4 r5 r6 r7 r8 r9 r10 r11 r12 hrf
      obtain ⟨r0, r1, r2, r3, r4, r5, r6, r7, r8, r9, r10, r11, r12⟩ := cells13 hrow
      refine bodyPost_ret (v := .tuple #[.agg #[.int .u64 0, .int .i64 0, .int .i64 0, .int .i64 0, .int .i64 0, .int .i64 0, .int .i64 0, .int .i64 0, .int .i64 0, .int .i64 0, .int .i64 0, .int .i64 0, .int .u64 0], .int .i64 22]) (by simp [results, Try.results12, go_sem, r0, r1, r2, r3, r4, r5, r6, r7, r8, r9, r10, r11, r12]) rfl ?_
      rw [HE.out, HD.out, HRB.out]
      exact ⟨rfl, hbel⟩
end Go.Proofs.Ytcbnebcooiagmaa
namespace Go.Proofs.Ytcbnebcooiagmaa
open Go.RowKit
set_option maxRecDepth 100000 in
theorem rget_any (a : Option Addr) (n c : Nat) (l : List Int) (m : Int) (w : World) (h : RdAt .u8 w a n c l) :
    Calls Try.prog 55 #[.slice a n c, .int .i64 m] w fun e w' => e = .returned (.tuple #[.int .u64 (getV l n m), .bool (getOk n m)]) ∧ w = w' := by
  have hmax := h.max
  have hcap := h.cap
  unfold maxLen at hmax
  by_cases hok : getOk n m = true
  · have q : 0 ≤ m ∧ m ≤ 8 ∧ m ≤ n := by unfold getOk at hok; simpa using hok
    obtain ⟨q1, q2, q4⟩ := q
    obtain ⟨m, rfl⟩ := Int.eq_ofNat_of_zero_le q1
    rw [hok, getV_yes hok, ← getFrom_zero]
    clear hok
    go_enter Try.func55, Try.ntmps55
    go_wp2
    go_loop [6, 7] (fun x i => ∃ j : Nat, j ≤ m ∧ i = .int .i64 (j - 1) ∧ x = .int .u64 (getFrom l j (m - j))) (fun _ i => (intOf i + 1).toNat)
    case atStart => exact ⟨m, by omega, rfl, by simp [getFrom]⟩
    case round =>
      obtain ⟨j, hj, rfl, rfl⟩ := hrel
      cases j with
      | zero =>
        have e : ((0 : Nat) : Int) - 1 = -1 := rfl
        rw [e]
        clear e
        go_wp2
        go_ret2
        exact ⟨rfl, rfl⟩
      | succ k =>
        have e : ((k + 1 : Nat) : Int) - 1 = k := by omega
        rw [e]
        clear e
        obtain ⟨b, o, rfl, hc⟩ := h.cell k (by omega)
        have hb := h.byte k (by omega)
        have hb1 := hb.1
        have hb2 := hb.2
        have hf := getFrom_bd l (m - (k + 1)) (k + 1) (fun i hi => h.byte i (by omega))
        have hf1 := hf.1
        have hf2 : getFrom l (k + 1) (m - (k + 1)) ≤ 72057594037927935 := by have := pow_le_of (show 8 * (m - (k + 1)) ≤ 56 by omega); omega
        have HS : Hid (getFrom l (k + 1) (m - (k + 1)) * 256 + nth l k = getFrom l k (m - k)) := by
          show _ = _
          rw [show m - k = m - (k + 1) + 1 by omega, getFrom]; omega
        clear hf hb
        go_wp2
        go_round
        case rel => exact ⟨k, by omega, rfl, by rw [HS.out]⟩
        case measure => simp [intOf] <;> omega
  · have hok' : getOk n m = false := by simpa using hok
    rw [hok', getV_no hok']
    have q : ¬ (0 ≤ m ∧ m ≤ 8 ∧ m ≤ n) := by unfold getOk at hok; simpa using hok
    clear hok hok'
    by_cases c1 : m < 0
    · go_enter Try.func55, Try.ntmps55
      go_wp2
      go_ret2
      exact ⟨rfl, rfl⟩
    by_cases c2 : 8 < m
    · go_enter Try.func55, Try.ntmps55
      go_wp2
      go_ret2
      exact ⟨rfl, rfl⟩
    have c4 : n < m := by omega
    clear q
    go_enter Try.func55, Try.ntmps55
    go_wp2
    go_ret2
    exact ⟨rfl, rfl⟩
end Go.Proofs.Ytcbnebcooiagmaa
