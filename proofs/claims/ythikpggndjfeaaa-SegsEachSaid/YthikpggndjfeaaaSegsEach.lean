/- The walk of almanaclaw7.SegsEach. -/
import Derived.Test.YthikpggndjfeaaaSgEach
import Derived.Test.YthikpggndjfeaaaSgLooks
import Derived.Deep.Light
namespace Go.Proofs.Ythikpggndjfeaaa
open Go.RowKit
theorem Tw.base7 {b mb g : Nat} {w0 w w' : World} (h : Below b w0 w) (t : Tw mb g w w') (h1 : b ≤ mb) (h2 : b ≤ g) (h3 : b ≤ w.heap.size) : Below b w0 w' :=
  ⟨t.os.trans h.os, t.tape.trans h.tape, t.output.trans h.output, Nat.le_trans h.size t.size, fun k hk => (t.block k (by omega) (by omega) (by omega)).trans (h.block k hk)⟩
/-- Each state is one of the four. -/
def St3 (L : List Ent) : Prop := ∀ e ∈ L, e.st = 0 ∨ e.st = 1 ∨ e.st = 2 ∨ e.st = 3
theorem st3_set {L : List Ent} (h : St3 L) (k : Int) {e : Ent} (he : e.st = 0 ∨ e.st = 1 ∨ e.st = 2 ∨ e.st = 3) : St3 (setE L k e) := fun x hx => by
  rcases List.mem_or_eq_of_mem_set hx with h1 | h1
  · exact h x h1
  · rw [h1]; exact he
theorem st3_get {L : List Ent} (h : St3 L) (k : Int) : (getE L k).st = 0 ∨ (getE L k).st = 1 ∨ (getE L k).st = 2 ∨ (getE L k).st = 3 := by
  unfold getE
  split
  · cases hk : L[k.toNat]? with
    | none => exact .inl rfl
    | some e => exact h e (List.mem_of_getElem? hk)
  · exact .inl rfl
theorem st3_act {L : List Ent} (h : St3 L) (a : ActS) : St3 (actS L a) := by
  unfold actS
  split
  · unfold takeS
    split
    · exact st3_set h _ (.inr (.inl rfl))
    · exact h
  split
  · unfold fillS
    split
    · split
      · exact st3_set h _ (.inr (.inr (.inl rfl)))
      · exact h
    · exact h
  split
  · unfold holdS
    split
    · split
      · exact st3_set h _ (.inr (.inr (.inr rfl)))
      · exact h
    · exact h
  split
  · intro e he
    obtain ⟨x, hx, rfl⟩ := List.mem_map.1 he
    split
    · exact .inl rfl
    · exact h x hx
  split
  · unfold addS
    split
    · split
      · exact h
      · split
        · exact h
        · exact st3_set h _ (st3_get h _)
    · exact h
  · exact h
theorem st3_sum : ∀ {L : List Ent}, St3 L → cntL L 0 + cntL L 1 + cntL L 2 + cntL L 3 = L.length
  | [], _ => rfl
  | e :: r, h => by
    have ih := st3_sum (L := r) (fun x hx => h x (List.mem_cons_of_mem _ hx))
    have he := h e (List.mem_cons_self ..)
    unfold cntL at ih ⊢
    simp only [List.filter_cons, List.length_cons]
    rcases he with h0 | h0 | h0 | h0 <;> simp [h0] <;> omega
theorem act_len (L : List Ent) (a : ActS) : (actS L a).length = L.length := by
  unfold actS takeS fillS holdS relS addS
  repeat' split
  all_goals first | rfl | exact set_len _ _ _ | exact List.length_map _
set_option linter.unusedSimpArgs false in
set_option linter.unusedVariables false in
set_option maxRecDepth 100000 in
set_option maxHeartbeats 2000000 in
theorem each_over0 (n : Int) (a : Option Addr) (len c : Nat) (stop : Int) (w : World) (h : 300 < len) :
    Calls Try.prog 5 #[.int .i64 n, .slice a len c, .int .i64 stop] w fun e w' => e = .returned (.bool true) ∧ Below w.heap.size w w' := by
  have d0 : decide ((300 : Int) < (len : Int)) = true := decide_eq_true (by omega)
  have hba : Below w.heap.size w ((w.alloc (.cells #[.int .i64 n] 3)).alloc (.cells #[.int .i64 stop] 3)) := ((Below.refl _ _).alloc (Nat.le_refl _) _).alloc (by simp) _
  have hrn := row_keep (heap_alloc_new w (.cells #[.int .i64 n] 3)) ((Below.refl (w.alloc (.cells #[.int .i64 n] 3)).heap.size _).alloc (Nat.le_refl _) (.cells #[.int .i64 stop] 3))
  have hrs : ((w.alloc (.cells #[.int .i64 n] 3)).alloc (.cells #[.int .i64 stop] 3)).heap[w.heap.size + 1]? = some (.cells #[.int .i64 stop] 3 (0, 0)) := by
    have := heap_alloc_new (w.alloc (.cells #[.int .i64 n] 3)) (.cells #[.int .i64 stop] 3)
    simpa using this
  obtain ⟨wa, hwa⟩ : ∃ z, ((w.alloc (.cells #[.int .i64 n] 3)).alloc (.cells #[.int .i64 stop] 3)) = z := ⟨_, rfl⟩
  obtain ⟨nb, hnb⟩ : ∃ z, w.heap.size = z := ⟨_, rfl⟩
  rw [hwa] at hba hrn hrs
  rw [hnb] at hrn hrs
  have BA := Lib.hid hba
  have RN := Lib.hid hrn
  have RS := Lib.hid hrs
  have HWA := Lib.hid hwa
  have HNB := Lib.hid hnb
  clear hba hrn hrs hwa hnb
  go_enter Try.func5, Try.ntmps5
  go_wp2_with fail
  rw [HWA.out, HNB.out]
  refine (known7 wa).mono ?_
  rintro e w1 ⟨rfl, hb1⟩
  have B1 := Lib.hid (Below.call BA.out hb1)
  have RN1 := Lib.hid (row_keep RN.out hb1)
  have RS1 := Lib.hid (row_keep RS.out hb1)
  clear hb1 BA RN RS
  have n0 : w1.cell? ⟨nb, 0, none⟩ = some (.int .i64 n) := cell_of_row w1 nb 0 _ _ _ RN1.out
  go_wp2_with fail
  go_ret
  exact ⟨rfl, B1.out⟩
set_option linter.unusedSimpArgs false in
set_option linter.unusedVariables false in
set_option maxRecDepth 100000 in
set_option maxHeartbeats 2000000 in
theorem each_over1 (n : Int) (a : Option Addr) (len c : Nat) (stop : Int) (w : World) (h : len ≤ 300 ∧ n < 1) :
    Calls Try.prog 5 #[.int .i64 n, .slice a len c, .int .i64 stop] w fun e w' => e = .returned (.bool true) ∧ Below w.heap.size w w' := by
  have d0 : decide ((300 : Int) < (len : Int)) = false := decide_eq_false (by omega)
  have d1 : decide (n < 1) = true := decide_eq_true (by omega)
  have hba : Below w.heap.size w ((w.alloc (.cells #[.int .i64 n] 3)).alloc (.cells #[.int .i64 stop] 3)) := ((Below.refl _ _).alloc (Nat.le_refl _) _).alloc (by simp) _
  have hrn := row_keep (heap_alloc_new w (.cells #[.int .i64 n] 3)) ((Below.refl (w.alloc (.cells #[.int .i64 n] 3)).heap.size _).alloc (Nat.le_refl _) (.cells #[.int .i64 stop] 3))
  have hrs : ((w.alloc (.cells #[.int .i64 n] 3)).alloc (.cells #[.int .i64 stop] 3)).heap[w.heap.size + 1]? = some (.cells #[.int .i64 stop] 3 (0, 0)) := by
    have := heap_alloc_new (w.alloc (.cells #[.int .i64 n] 3)) (.cells #[.int .i64 stop] 3)
    simpa using this
  obtain ⟨wa, hwa⟩ : ∃ z, ((w.alloc (.cells #[.int .i64 n] 3)).alloc (.cells #[.int .i64 stop] 3)) = z := ⟨_, rfl⟩
  obtain ⟨nb, hnb⟩ : ∃ z, w.heap.size = z := ⟨_, rfl⟩
  rw [hwa] at hba hrn hrs
  rw [hnb] at hrn hrs
  have BA := Lib.hid hba
  have RN := Lib.hid hrn
  have RS := Lib.hid hrs
  have HWA := Lib.hid hwa
  have HNB := Lib.hid hnb
  clear hba hrn hrs hwa hnb
  go_enter Try.func5, Try.ntmps5
  go_wp2_with fail
  rw [HWA.out, HNB.out]
  refine (known7 wa).mono ?_
  rintro e w1 ⟨rfl, hb1⟩
  have B1 := Lib.hid (Below.call BA.out hb1)
  have RN1 := Lib.hid (row_keep RN.out hb1)
  have RS1 := Lib.hid (row_keep RS.out hb1)
  clear hb1 BA RN RS
  have n0 : w1.cell? ⟨nb, 0, none⟩ = some (.int .i64 n) := cell_of_row w1 nb 0 _ _ _ RN1.out
  go_wp2_with fail
  go_ret
  exact ⟨rfl, B1.out⟩
set_option linter.unusedSimpArgs false in
set_option linter.unusedVariables false in
set_option maxRecDepth 100000 in
set_option maxHeartbeats 2000000 in
theorem each_over2 (n : Int) (a : Option Addr) (len c : Nat) (stop : Int) (w : World) (h : len ≤ 300 ∧ 1 ≤ n ∧ 200 < n) :
    Calls Try.prog 5 #[.int .i64 n, .slice a len c, .int .i64 stop] w fun e w' => e = .returned (.bool true) ∧ Below w.heap.size w w' := by
  have d0 : decide ((300 : Int) < (len : Int)) = false := decide_eq_false (by omega)
  have d1 : decide (n < 1) = false := decide_eq_false (by omega)
  have d2 : decide (200 < n) = true := decide_eq_true (by omega)
  have hba : Below w.heap.size w ((w.alloc (.cells #[.int .i64 n] 3)).alloc (.cells #[.int .i64 stop] 3)) := ((Below.refl _ _).alloc (Nat.le_refl _) _).alloc (by simp) _
  have hrn := row_keep (heap_alloc_new w (.cells #[.int .i64 n] 3)) ((Below.refl (w.alloc (.cells #[.int .i64 n] 3)).heap.size _).alloc (Nat.le_refl _) (.cells #[.int .i64 stop] 3))
  have hrs : ((w.alloc (.cells #[.int .i64 n] 3)).alloc (.cells #[.int .i64 stop] 3)).heap[w.heap.size + 1]? = some (.cells #[.int .i64 stop] 3 (0, 0)) := by
    have := heap_alloc_new (w.alloc (.cells #[.int .i64 n] 3)) (.cells #[.int .i64 stop] 3)
    simpa using this
  obtain ⟨wa, hwa⟩ : ∃ z, ((w.alloc (.cells #[.int .i64 n] 3)).alloc (.cells #[.int .i64 stop] 3)) = z := ⟨_, rfl⟩
  obtain ⟨nb, hnb⟩ : ∃ z, w.heap.size = z := ⟨_, rfl⟩
  rw [hwa] at hba hrn hrs
  rw [hnb] at hrn hrs
  have BA := Lib.hid hba
  have RN := Lib.hid hrn
  have RS := Lib.hid hrs
  have HWA := Lib.hid hwa
  have HNB := Lib.hid hnb
  clear hba hrn hrs hwa hnb
  go_enter Try.func5, Try.ntmps5
  go_wp2_with fail
  rw [HWA.out, HNB.out]
  refine (known7 wa).mono ?_
  rintro e w1 ⟨rfl, hb1⟩
  have B1 := Lib.hid (Below.call BA.out hb1)
  have RN1 := Lib.hid (row_keep RN.out hb1)
  have RS1 := Lib.hid (row_keep RS.out hb1)
  clear hb1 BA RN RS
  have n0 : w1.cell? ⟨nb, 0, none⟩ = some (.int .i64 n) := cell_of_row w1 nb 0 _ _ _ RN1.out
  go_wp2_with fail
  go_ret
  exact ⟨rfl, B1.out⟩
set_option linter.unusedSimpArgs false in
set_option linter.unusedVariables false in
set_option maxRecDepth 100000 in
set_option maxHeartbeats 6000000 in
theorem each_in (n : Nat) (a : Option Addr) (len c : Nat) (stop : Int) (w : World) (acts : List ActS) (hr : RdS ActS.cells 4 w a len c acts) (hwf : ∀ r ∈ acts, r.Wf) (h1 : len ≤ 300) (h2 : 1 ≤ n) (h3 : n ≤ 200) (hst : -9223372036854775808 ≤ stop ∧ stop ≤ 9223372036854775807) :
    Calls Try.prog 5 #[.int .i64 (n : Int), .slice a len c, .int .i64 stop] w fun e w' => e = .returned (.bool true) ∧ Below w.heap.size w w' := by
  have HL := Lib.hid hr
  have HWF := Lib.hid hwf
  have d0 : decide ((300 : Int) < (len : Int)) = false := decide_eq_false (by omega)
  have d1 : decide ((n : Int) < 1) = false := decide_eq_false (by omega)
  have d2 : decide ((200 : Int) < (n : Int)) = false := decide_eq_false (by omega)
  clear hr hwf
  have hba : Below w.heap.size w ((w.alloc (.cells #[.int .i64 (n : Int)] 3)).alloc (.cells #[.int .i64 stop] 3)) := ((Below.refl _ _).alloc (Nat.le_refl _) _).alloc (by simp) _
  have hrn := row_keep (heap_alloc_new w (.cells #[.int .i64 (n : Int)] 3)) ((Below.refl (w.alloc (.cells #[.int .i64 (n : Int)] 3)).heap.size _).alloc (Nat.le_refl _) (.cells #[.int .i64 stop] 3))
  have hrs : ((w.alloc (.cells #[.int .i64 (n : Int)] 3)).alloc (.cells #[.int .i64 stop] 3)).heap[w.heap.size + 1]? = some (.cells #[.int .i64 stop] 3 (0, 0)) := by
    have := heap_alloc_new (w.alloc (.cells #[.int .i64 (n : Int)] 3)) (.cells #[.int .i64 stop] 3)
    simpa using this
  obtain ⟨wa, hwa⟩ : ∃ z, ((w.alloc (.cells #[.int .i64 (n : Int)] 3)).alloc (.cells #[.int .i64 stop] 3)) = z := ⟨_, rfl⟩
  obtain ⟨nb, hnb⟩ : ∃ z, w.heap.size = z := ⟨_, rfl⟩
  rw [hwa] at hba hrn hrs
  rw [hnb] at hrn hrs
  have BA := Lib.hid hba
  have RN := Lib.hid hrn
  have RS := Lib.hid hrs
  have HWA := Lib.hid hwa
  have HNB := Lib.hid hnb
  clear hba hrn hrs hwa hnb
  go_enter Try.func5, Try.ntmps5
  go_wp2_with fail
  rw [HWA.out, HNB.out]
  refine (known7 wa).mono ?_
  rintro e w1 ⟨rfl, hb1⟩
  have B1 := Lib.hid (Below.call BA.out hb1)
  have RN1 := Lib.hid (row_keep RN.out hb1)
  have RS1 := Lib.hid (row_keep RS.out hb1)
  clear hb1 BA RN RS
  have n0 : w1.cell? ⟨nb, 0, none⟩ = some (.int .i64 (n : Int)) := cell_of_row w1 nb 0 _ _ _ RN1.out
  go_wp2_with fail
  refine (new_any n w1 h2 (by omega)).mono ?_
  rintro e w2 ⟨rfl, ht, hb⟩
  have S2 := SgW.made B1.out ht hb
  have L2 := B1.out.size
  obtain ⟨d, hd⟩ : ∃ d, w1.heap.size + 1 = d := ⟨_, rfl⟩
  rw [hd] at S2 ⊢
  obtain ⟨mb, hmb⟩ : ∃ mb, w1.heap.size = mb := ⟨_, rfl⟩
  rw [hmb] at S2
  have LN : Hid (nb < mb ∧ nb + 1 < mb) := by
    show _ ∧ _
    have q1 := (Array.getElem?_eq_some_iff.1 RN1.out).1
    have q2 := (Array.getElem?_eq_some_iff.1 RS1.out).1
    omega
  have T2 := Lib.hid S2
  have RN2 := Lib.hid (row_keep RN1.out hb)
  have RS2 := Lib.hid (row_keep RS1.out hb)
  have n0 : w2.cell? ⟨nb, 0, none⟩ = some (.int .i64 (n : Int)) := cell_of_row w2 nb 0 _ _ _ RN2.out
  clear ht hb S2 hd L2
  go_wp2_with fail
  refine (refnew_any n w2 h2 (by omega)).mono ?_
  rintro e w3 ⟨rfl, hr, hb⟩
  have T3 := Lib.hid (T2.out.more hb)
  have R3 : RtW w w3 (w2.heap.size + 1) w2.heap.size (List.replicate n ent0) := ⟨hr, Below.call T2.out.b hb, by have := T2.out.b.size; omega, T2.out.b.size⟩
  have LM : mb < w2.heap.size := T2.out.t.map.lt
  obtain ⟨rd, hd⟩ : ∃ d, w2.heap.size + 1 = d := ⟨_, rfl⟩
  rw [hd] at R3 ⊢
  obtain ⟨g, hg⟩ : ∃ g, w2.heap.size = g := ⟨_, rfl⟩
  rw [hg] at R3 LM
  have R3 := Lib.hid R3
  have RN3 := Lib.hid (row_keep RN2.out hb)
  have RS3 := Lib.hid (row_keep RS2.out hb)
  have hal := (Below.refl w3.heap.size w3).alloc (Nat.le_refl _) (.cells #[.pointer (some ⟨rd, 0, none⟩)] 41)
  have hrr := heap_alloc_new w3 (.cells #[.pointer (some ⟨rd, 0, none⟩)] 41)
  obtain ⟨w4, hw4⟩ : ∃ z, w3.alloc (.cells #[.pointer (some ⟨rd, 0, none⟩)] 41) = z := ⟨_, rfl⟩
  obtain ⟨rb, hrb⟩ : ∃ z, w3.heap.size = z := ⟨_, rfl⟩
  rw [hw4] at hal hrr
  rw [hrb] at hrr
  have LR : Hid (g < rb ∧ mb < rb) := by
    show _ ∧ _
    have := R3.out.t.lt2
    omega
  have T4 := Lib.hid (T3.out.more hal)
  have R4 := Lib.hid (R3.out.more hal)
  have BX4 : Hid (w4.heap[nb]? = some (.cells #[.int .i64 (n : Int)] 3 (0, 0)) ∧ w4.heap[nb + 1]? = some (.cells #[.int .i64 stop] 3 (0, 0)) ∧ w4.heap[rb]? = some (.cells #[.pointer (some ⟨rd, 0, none⟩)] 41 (0, 0))) := Lib.hid ⟨row_keep RN3.out hal, row_keep RS3.out hal, hrr⟩
  have LG : Hid (nb < g ∧ nb + 1 < g) := by
    show _ ∧ _
    have := LN.out
    omega
  have T40 : Hid (St3 (List.replicate n ent0)) := fun e he => by rw [(List.mem_replicate.1 he).2]; exact .inl rfl
  have T41 : Hid ((List.replicate n ent0).length = n) := List.length_replicate
  clear hr hb hd hal hrr hg hmb T2 T3 R3 RN1 RN2 RN3 RS1 RS2 RS3 B1 n0 LM
  go_wp2_with (first | (rw [hw4, hrb]) | fail)
  clear hw4 hrb
  go_loopw [11] (fun z wr => ∃ i : Nat, i ≤ len ∧ z = .int .i64 i ∧ ∃ L, Hid (SgW w wr d mb L) ∧ Hid (RtW w wr rd g L) ∧ Hid (St3 L) ∧ Hid (L.length = n) ∧ Hid (wr.heap[nb]? = some (.cells #[.int .i64 (n : Int)] 3 (0, 0)) ∧ wr.heap[nb + 1]? = some (.cells #[.int .i64 stop] 3 (0, 0)) ∧ wr.heap[rb]? = some (.cells #[.pointer (some ⟨rd, 0, none⟩)] 41 (0, 0)))) (fun z _ => len - (intOf z).toNat)
  case atStart => exact ⟨0, by omega, rfl, _, T4, R4, T40, T41, BX4⟩
  case round =>
    clear T4 R4 T40 T41 BX4
    obtain ⟨i, hi, rfl, L, S, R, Q3, QN, BX⟩ := hrel
    by_cases hil : i < len
    · obtain ⟨A, hA⟩ : ∃ A, acts[i]? = some A := ⟨acts[i]'(by rw [HL.out.len]; exact hil), List.getElem?_eq_getElem _⟩
      have HWA := Lib.hid (HWF.out A (List.mem_of_getElem? hA))
      obtain ⟨ab, ao, ea, x0, x1, x2, x3⟩ := (HL.out.below S.out.b).four i A hA
      subst ea
      have HA := Lib.hid hA
      obtain ⟨op, ky, E, N⟩ := A
      clear hA x0 x1 x2 x3
      go_wp2_with fail
      have hrb3 : wr.drew.heap[rb]? = some (.cells #[.pointer (some ⟨rd, 0, none⟩)] 41 (0, 0)) := BX.out.2.2
      have hz : Below wr.heap.size wr wr.drew := ⟨rfl, rfl, rfl, Nat.le_refl _, fun _ _ => rfl⟩
      have hrd3 : RdS ActS.cells 4 wr.drew (some ⟨ab, ao, none⟩) len c acts := HL.out.below (S.out.b.trans ⟨rfl, rfl, rfl, Nat.le_refl _, fun _ _ => rfl⟩)
      have htt3 : TbIn wr.drew d mb L ∧ RtIn wr.drew rd g L := ⟨S.out.t.below hz, R.out.t.below hz⟩
      have htw3 : Tw mb g wr wr.drew := Tw.of_below hz
      refine' reg_order [eqV _, eqV _, eqV _, eqV _, eqV _, eqV _, (fun v w5 => v = .bool true ∧ TbIn w5 d mb (actS L ⟨op, ky, E, N⟩) ∧ RtIn w5 rd g (actS L ⟨op, ky, E, N⟩)), eqV _] [(6, fun w w' => Tw mb g w w')] [(1, fun w5 => w5.heap[rb]? = some (.cells #[.pointer (some ⟨rd, 0, none⟩)] 41 (0, 0))), (5, fun w5 => RdS ActS.cells 4 w5 (some ⟨ab, ao, none⟩) len c acts), (6, fun w5 => TbIn w5 d mb L ∧ RtIn w5 rd g L), (8, fun w5 => Tw mb g wr w5)] [50, 51, 52, 53, 54, 55, 56, 57] [[], [], [], [], [2, 3], [4], [0, 1, 5], [6]] [0, 1, 2, 3, 4, 5, 6, 7] 8 (by kernel_rfl) ⟨eqV_stays _, eqV_stays _, eqV_stays _, eqV_stays _, eqV_stays _, eqV_stays _, fun _ _ _ p b => ⟨p.1, TbIn.below p.2.1 b, RtIn.below p.2.2 b⟩, eqV_stays _, trivial⟩ ⟨⟨.inl (eqV_stays _), .inl (eqV_stays _), .inl (eqV_stays _), .inl (eqV_stays _), .inl (eqV_stays _), .inl (eqV_stays _), .inr (.inr rfl), .inl (eqV_stays _), trivial⟩, trivial⟩ ⟨fun _ _ p b => row_keep p b, fun _ _ p b => RdS.below p b, fun _ _ p b => ⟨TbIn.below p.1 b, RtIn.below p.2 b⟩, fun _ _ p b => Tw.below p b, trivial⟩ ⟨⟨.inr (.inl (by kernel_rfl)), .inr (.inl (by kernel_rfl)), .inr (.inr rfl), .inl (fun _ _ p q => Tw.trans p q), trivial⟩, trivial⟩ ⟨hrb3, hrd3, htt3, htw3, trivial⟩ 90 rfl (by kernel_rfl) (by kernel_rfl) rfl rfl 8 rfl ?q1obl ?q1fin
      case q1obl =>
        refine And.intro ?q1o0 (And.intro ?q1o1 (And.intro ?q1o2 (And.intro ?q1o3 (And.intro ?q1o4 (And.intro ?q1o5 (And.intro ?q1o6 (And.intro ?q1o7 (True.intro))))))))
        case q1o0 =>
          intro w1 hI
          go_light
          refine turn2_on (by rfl) ?_
          intro K hK
          go_simp
          refine hK _ _ ⟨rfl, Kept.refl _, ?_⟩
          show _ = _
          simp only [List.getD_cons_zero, List.getD_cons_succ, Array.getD_eq_getD_getElem?, List.getElem?_toArray, List.getElem?_cons_zero, List.getElem?_cons_succ, Option.getD_some]
          rfl
        case q1o1 =>
          intro w1 hI
          go_light
          replace hI : (fun w5 => w5.heap[rb]? = some (.cells #[.pointer (some ⟨rd, 0, none⟩)] 41 (0, 0))) w1 := hI
          refine turn2_on (by rfl) ?_
          intro K hK
          have c1 : w1.cell? ⟨rb, 0, none⟩ = some (.pointer (some ⟨rd, 0, none⟩)) := cell_of_row w1 rb 0 _ _ _ hI
          go_simp
          refine hK _ _ ⟨rfl, Kept.refl _, ?_⟩
          show _ = _
          simp only [List.getD_cons_zero, List.getD_cons_succ, Array.getD_eq_getD_getElem?, List.getElem?_toArray, List.getElem?_cons_zero, List.getElem?_cons_succ, Option.getD_some]
          rfl
        case q1o2 =>
          intro w1 hI
          go_light
          refine turn2_on (by rfl) ?_
          intro K hK
          go_simp
          refine hK _ _ ⟨rfl, Kept.refl _, ?_⟩
          show _ = _
          simp only [List.getD_cons_zero, List.getD_cons_succ, Array.getD_eq_getD_getElem?, List.getElem?_toArray, List.getElem?_cons_zero, List.getElem?_cons_succ, Option.getD_some]
          rfl
        case q1o3 =>
          intro w1 hI
          go_light
          refine turn2_on (by rfl) ?_
          intro K hK
          go_simp
          refine hK _ _ ⟨rfl, Kept.refl _, ?_⟩
          show _ = _
          simp only [List.getD_cons_zero, List.getD_cons_succ, Array.getD_eq_getD_getElem?, List.getElem?_toArray, List.getElem?_cons_zero, List.getElem?_cons_succ, Option.getD_some]
          rfl
        case q1o4 =>
          intro w1 hI
          go_light
          intro v2 h2
          change _ = _ at h2
          subst v2
          intro v3 h3
          change _ = _ at h3
          subst v3
          refine turn2_on (by rfl) ?_
          intro K hK
          simp only [List.getD_cons_zero, List.getD_cons_succ, List.setIfInBounds_toArray, List.set_cons_zero, List.set_cons_succ]
          go_simp
          refine hK _ _ ⟨rfl, Kept.refl _, ?_⟩
          show _ = _
          simp only [List.getD_cons_zero, List.getD_cons_succ, Array.getD_eq_getD_getElem?, List.getElem?_toArray, List.getElem?_cons_zero, List.getElem?_cons_succ, Option.getD_some]
          rfl
        case q1o5 =>
          intro w1 hI
          go_light
          replace hI : (fun w5 => RdS ActS.cells 4 w5 (some ⟨ab, ao, none⟩) len c acts) w1 := hI
          intro v4 h4
          change _ = _ at h4
          subst v4
          refine turn2_on (by rfl) ?_
          intro K hK
          simp only [List.getD_cons_zero, List.getD_cons_succ, List.setIfInBounds_toArray, List.set_cons_zero, List.set_cons_succ]
          obtain ⟨gb, go, ge, x0, x1, x2, x3⟩ := RdS.four hI i _ HA.out
          injection ge with ge
          injection ge with gg1 gg2
          subst gg1 gg2
          dsimp only at x0 x1 x2 x3
          go_simp
          refine hK _ _ ⟨rfl, Kept.refl _, ?_⟩
          show _ = _
          simp only [List.getD_cons_zero, List.getD_cons_succ, Array.getD_eq_getD_getElem?, List.getElem?_toArray, List.getElem?_cons_zero, List.getElem?_cons_succ, Option.getD_some]
          rfl
        case q1o6 =>
          intro w1 hI
          go_light
          replace hI : (fun w5 => TbIn w5 d mb L ∧ RtIn w5 rd g L) w1 := hI
          intro v0 h0
          change _ = _ at h0
          subst v0
          intro v1 h1
          change _ = _ at h1
          subst v1
          intro v5 h5
          change _ = _ at h5
          subst v5
          refine turn2_on (by rfl) ?_
          intro K hK
          simp only [List.getD_cons_zero, List.getD_cons_succ, List.setIfInBounds_toArray, List.set_cons_zero, List.set_cons_succ]
          go_simp
          refine Calls.mono (step_any d mb rd g L ⟨op, ky, E, N⟩ w1 hI.1 hI.2 HWA.out) ?_
          rintro e w9 ⟨rfl, q1, q2, q3⟩
          refine hK _ _ ⟨rfl, q3, ?_⟩
          refine ⟨?_, q1, q2⟩
          simp only [List.getD_cons_zero, List.getD_cons_succ, Array.getD_eq_getD_getElem?, List.getElem?_toArray, List.getElem?_cons_zero, List.getElem?_cons_succ, Option.getD_some]
        case q1o7 =>
          intro w1 hI
          go_light
          intro v6 h6
          obtain ⟨rfl, h6⟩ := h6
          refine turn2_on (by rfl) ?_
          intro K hK
          simp only [List.getD_cons_zero, List.getD_cons_succ, List.setIfInBounds_toArray, List.set_cons_zero, List.set_cons_succ]
          go_simp
          refine hK _ _ ⟨rfl, Kept.refl _, ?_⟩
          show _ = _
          simp only [List.getD_cons_zero, List.getD_cons_succ, Array.getD_eq_getD_getElem?, List.getElem?_toArray, List.getElem?_cons_zero, List.getElem?_cons_succ, Option.getD_some]
          rfl
      intro w4 hI
      replace hI : (fun w5 => Tw mb g wr w5) w4 := hI
      intro v0 h0
      change _ = _ at h0
      subst v0
      intro v1 h1
      change _ = _ at h1
      subst v1
      intro v2 h2
      change _ = _ at h2
      subst v2
      intro v3 h3
      change _ = _ at h3
      subst v3
      intro v4 h4
      change _ = _ at h4
      subst v4
      intro v5 h5
      change _ = _ at h5
      subst v5
      intro v6 h6
      obtain ⟨rfl, h6⟩ := h6
      intro v7 h7
      change _ = _ at h7
      subst v7
      simp only [Given, List.getD_cons_zero, List.getD_cons_succ, List.setIfInBounds_toArray, List.set_cons_zero, List.set_cons_succ]
      have hb6 := Tw.base7 S.out.b hI S.out.m0 R.out.g0 S.out.b.size
      have S6 := Lib.hid (SgW.mk h6.1 hb6 S.out.d0 S.out.m0)
      have R6 := Lib.hid (RtW.mk h6.2 hb6 R.out.d0 R.out.g0)
      have Q6 := Lib.hid (st3_act Q3.out ⟨op, ky, E, N⟩)
      have N6 : Hid ((actS L ⟨op, ky, E, N⟩).length = n) := by rw [act_len]; exact QN
      have BX6 : Hid (w4.heap[nb]? = some (.cells #[.int .i64 (n : Int)] 3 (0, 0)) ∧ w4.heap[nb + 1]? = some (.cells #[.int .i64 stop] 3 (0, 0)) ∧ w4.heap[rb]? = some (.cells #[.pointer (some ⟨rd, 0, none⟩)] 41 (0, 0))) := by
        have l1 := LN.out
        have l2 := LR.out
        have l3 := LG.out
        exact Lib.hid ⟨(hI.block nb (Array.getElem?_eq_some_iff.1 BX.out.1).1 (by omega) (by omega)).trans BX.out.1, (hI.block (nb + 1) (Array.getElem?_eq_some_iff.1 BX.out.2.1).1 (by omega) (by omega)).trans BX.out.2.1, (hI.block rb (Array.getElem?_eq_some_iff.1 BX.out.2.2).1 (by omega) (by omega)).trans BX.out.2.2⟩
      clear h6 hI hb6 hrb3 hz hrd3 htt3 htw3
      go_wp2_with fail
      go_roundw
      case rel => exact ⟨i + 1, by omega, by go_num, _, S6, R6, Q6, N6, BX6⟩
      case measure => simp [intOf] <;> omega
    obtain rfl : i = len := by omega
    have hba : Below wr.heap.size wr ((wr.alloc (.cells #[.int .i64 0] 3)).alloc (.cells #[.bool true] 4)) := ((Below.refl _ _).alloc (Nat.le_refl _) _).alloc (by simp) _
    have hrk := row_keep (heap_alloc_new wr (.cells #[.int .i64 0] 3)) ((Below.refl (wr.alloc (.cells #[.int .i64 0] 3)).heap.size _).alloc (Nat.le_refl _) (.cells #[.bool true] 4))
    have hro : ((wr.alloc (.cells #[.int .i64 0] 3)).alloc (.cells #[.bool true] 4)).heap[wr.heap.size + 1]? = some (.cells #[.bool true] 4 (0, 0)) := by
      have := heap_alloc_new (wr.alloc (.cells #[.int .i64 0] 3)) (.cells #[.bool true] 4)
      simpa using this
    have l1 := (Array.getElem?_eq_some_iff.1 BX.out.1).1
    have l2 := (Array.getElem?_eq_some_iff.1 BX.out.2.1).1
    have l3 := (Array.getElem?_eq_some_iff.1 BX.out.2.2).1
    have l4 := S.out.t.lt
    have l5 := S.out.t.map.lt
    have l6 := R.out.t.lt
    have l7 := R.out.t.lt2
    obtain ⟨w9, hw9⟩ : ∃ z, ((wr.alloc (.cells #[.int .i64 0] 3)).alloc (.cells #[.bool true] 4)) = z := ⟨_, rfl⟩
    obtain ⟨kb, hkb⟩ : ∃ z, wr.heap.size = z := ⟨_, rfl⟩
    have BX9 := And.intro (row_keep BX.out.1 hba) (And.intro (row_keep BX.out.2.1 hba) (row_keep BX.out.2.2 hba))
    have S9 := S.out.more hba
    have R9 := R.out.more hba
    have hbb := S.out.b
    rw [hw9] at hrk hro BX9 S9 R9
    rw [hkb] at hrk hro l1 l2 l3 l4 l5 l6 l7
    have EL := Lib.hid (each_law d mb n L rd g (kb + 1) kb nb rb (nb + 1) stop w9 S9.t R9.t QN.out ⟨hro, hrk, BX9.1, BX9.2.2, BX9.2.1⟩ ⟨by omega, ⟨by omega, by omega⟩, ⟨by omega, by omega⟩, ⟨by omega, by omega⟩⟩ ⟨⟨by omega, by omega⟩, ⟨by omega, by omega⟩, ⟨by omega, by omega⟩, ⟨by omega, by omega⟩⟩)
    have LK : Hid (d < kb ∧ mb < kb) := ⟨l4, l5⟩
    have S9 := Lib.hid S9
    have HBK : Hid (w.heap.size ≤ kb) := by show _ ≤ _; rw [← hkb]; exact hbb.size
    have HW9 := Lib.hid hw9
    have HKB := Lib.hid hkb
    clear hba hrk hro hw9 BX9 R9 hbb l1 l2 l3 l4 l5 l6 l7 hkb
    go_wp2_with (first | (rw [HW9.out, HKB.out]) | fail)
    refine EL.out.mono ?_
    rintro e w10 ⟨rfl, V10, hw⟩
    have T10 : Hid (TbIn w10 d mb L) := Lib.hid ⟨(hw.block d S9.out.t.lt (by have := LK.out; omega) (by have := LK.out; omega)).trans S9.out.t.row, S9.out.t.map.at (hw.block mb S9.out.t.map.lt (by have := LK.out; omega) (by have := LK.out; omega)), S9.out.t.ok⟩
    have B10 := Lib.hid (Tw.base7 S9.out.b hw (by have := HBK.out; omega) HBK.out S9.out.b.size)
    have V10 := Lib.hid V10
    have z3 : w10.cell? ⟨nb, 0, none⟩ = some (.int .i64 (n : Int)) := cell_of_row w10 nb 0 _ _ _ V10.out.n
    have z5 : w10.cell? ⟨nb + 1, 0, none⟩ = some (.int .i64 stop) := cell_of_row w10 (nb + 1) 0 _ _ _ V10.out.s
    have hsum := st3_sum Q3.out
    rw [QN.out] at hsum
    have hwn : wantE n stop = (if stop < 0 then 1 else if stop < n then stop.toNat + 1 else n) := rfl
    obtain ⟨okb, hok⟩ : ∃ z, kb + 1 = z := ⟨_, rfl⟩
    rw [hok] at V10 ⊢
    obtain ⟨C0, hC0⟩ : ∃ z, cntL L 0 = z := ⟨_, rfl⟩
    obtain ⟨C1, hC1⟩ : ∃ z, cntL L 1 = z := ⟨_, rfl⟩
    obtain ⟨C2, hC2⟩ : ∃ z, cntL L 2 = z := ⟨_, rfl⟩
    obtain ⟨C3, hC3⟩ : ∃ z, cntL L 3 = z := ⟨_, rfl⟩
    rw [hC0, hC1, hC2, hC3] at hsum
    have HC0 := Lib.hid hC0
    have HC1 := Lib.hid hC1
    have HC2 := Lib.hid hC2
    have HC3 := Lib.hid hC3
    have ad1 : IntKind.i64.wrap ((C0 : Int) + (C1 : Int)) = (C0 : Int) + (C1 : Int) := IntWalk.i64_in _ (by omega)
    have ad2 : IntKind.i64.wrap ((C0 : Int) + (C1 : Int) + (C2 : Int)) = (C0 : Int) + (C1 : Int) + (C2 : Int) := IntWalk.i64_in _ (by omega)
    have ad3 : IntKind.i64.wrap ((C0 : Int) + (C1 : Int) + (C2 : Int) + (C3 : Int)) = (n : Int) := by rw [IntWalk.i64_in _ (by omega)]; omega
    clear hw hok hC0 hC1 hC2 hC3 EL
    obtain ⟨WT, hWT⟩ : ∃ z, wantE n stop = z := ⟨_, rfl⟩
    rw [hWT] at V10 hwn
    have hBd : Below w.heap.size w w10.drew := B10.out.trans ⟨rfl, rfl, rfl, Nat.le_refl _, fun _ _ => rfl⟩
    clear hWT hsum
    by_cases p1 : stop < 0
    · have e1 : decide (stop < 0) = true := decide_eq_true p1
      have e2 : decide (stop < (n : Int)) = true := decide_eq_true (by omega)
      have e3 : IntKind.i64.wrap (stop + 1) = stop + 1 := IntWalk.i64_in _ (by omega)
      rw [if_pos p1] at hwn
      have qe : (((WT : Nat) : Int) == 1) = true := by rw [hwn]; rfl
      clear p1 hwn
      go_wp2_with fail
      refine' reg_free (G := Kept) (pickF [eqV _, eqV _, eqV _, eqV _, eqV _, eqV _, eqV _, eqV _, eqV _, eqV _, eqV _, eqV _, eqV _, eqV _, eqV _, eqV _, eqV _, eqV _, eqV _, eqV _, eqV _, eqV _]) [69, 70, 71, 72, 73, 74, 75, 76, 77, 78, 79, 80, 81, 82, 83, 84, 85, 86, 87, 88, 89, 6] [[], [0], [1], [1], [1, 2, 3], [1, 4], [5], [6], [6, 7], [6], [6, 9], [6, 8, 10], [6], [6, 12], [6, 11, 13], [6], [6, 15], [6, 14, 16], [6], [6, 17, 18], [6, 19], [20]] [0, 1, 2, 3, 4, 5, 6, 7, 8, 9, 10, 11, 12, 13, 14, 15, 16, 17, 18, 19, 20, 21] (by kernel_rfl) Kept.refl Kept.trans (pick_stays ⟨eqV_stays _, eqV_stays _, eqV_stays _, eqV_stays _, eqV_stays _, eqV_stays _, eqV_stays _, eqV_stays _, eqV_stays _, eqV_stays _, eqV_stays _, eqV_stays _, eqV_stays _, eqV_stays _, eqV_stays _, eqV_stays _, eqV_stays _, eqV_stays _, eqV_stays _, eqV_stays _, eqV_stays _, eqV_stays _, trivial⟩) 90 rfl (by kernel_rfl) (by kernel_rfl) rfl rfl ?r2obl ?r2fin
      case r2obl =>
        refine And.intro ?r2o0 (And.intro ?r2o1 (And.intro ?r2o2 (And.intro ?r2o3 (And.intro ?r2o4 (And.intro ?r2o5 (And.intro ?r2o6 (And.intro ?r2o7 (And.intro ?r2o8 (And.intro ?r2o9 (And.intro ?r2o10 (And.intro ?r2o11 (And.intro ?r2o12 (And.intro ?r2o13 (And.intro ?r2o14 (And.intro ?r2o15 (And.intro ?r2o16 (And.intro ?r2o17 (And.intro ?r2o18 (And.intro ?r2o19 (And.intro ?r2o20 (And.intro ?r2o21 (True.intro))))))))))))))))))))))
        case r2o0 =>
          intro w1 hG
          go_light
          refine turn_on (by rfl) ?_
          intro K hK
          have q0 : w1.cell? ⟨okb, 0, none⟩ = some (.bool true) := cell_of_row w1 okb 0 _ _ _ (row_keep (w := w10.drew) V10.out.o hG)
          go_simp
          refine hK _ _ ⟨rfl, Kept.refl _, ?_⟩
          show _ = _
          simp only [List.getD_cons_zero, List.getD_cons_succ, Array.getD_eq_getD_getElem?, List.getElem?_toArray, List.getElem?_cons_zero, List.getElem?_cons_succ, Option.getD_some]
          rfl
        case r2o1 =>
          intro w1 hG
          go_light
          intro v0 h0
          change _ = _ at h0
          subst h0
          refine turn_on (by rfl) ?_
          intro K hK
          simp only [List.getD_cons_zero, List.getD_cons_succ, List.setIfInBounds_toArray, List.set_cons_zero, List.set_cons_succ]
          go_simp
          refine hK _ _ ⟨rfl, Kept.refl _, ?_⟩
          show _ = _
          simp only [List.getD_cons_zero, List.getD_cons_succ, Array.getD_eq_getD_getElem?, List.getElem?_toArray, List.getElem?_cons_zero, List.getElem?_cons_succ, Option.getD_some]
          rfl
        case r2o2 =>
          intro w1 hG
          go_light
          intro v1 h1
          change _ = _ at h1
          subst h1
          refine turn_on (by rfl) ?_
          intro K hK
          simp only [List.getD_cons_zero, List.getD_cons_succ, List.setIfInBounds_toArray, List.set_cons_zero, List.set_cons_succ]
          have q0 : w1.cell? ⟨kb, 0, none⟩ = some (.int .i64 (WT : Nat)) := cell_of_row w1 kb 0 _ _ _ (row_keep (w := w10.drew) V10.out.k hG)
          go_simp
          refine hK _ _ ⟨rfl, Kept.refl _, ?_⟩
          show _ = _
          simp only [List.getD_cons_zero, List.getD_cons_succ, Array.getD_eq_getD_getElem?, List.getElem?_toArray, List.getElem?_cons_zero, List.getElem?_cons_succ, Option.getD_some]
          rfl
        case r2o3 =>
          intro w1 hG
          go_light
          intro v1 h1
          change _ = _ at h1
          subst h1
          refine turn_on (by rfl) ?_
          intro K hK
          simp only [List.getD_cons_zero, List.getD_cons_succ, List.setIfInBounds_toArray, List.set_cons_zero, List.set_cons_succ]
          go_simp
          refine hK _ _ ⟨rfl, Kept.refl _, ?_⟩
          show _ = _
          simp only [List.getD_cons_zero, List.getD_cons_succ, Array.getD_eq_getD_getElem?, List.getElem?_toArray, List.getElem?_cons_zero, List.getElem?_cons_succ, Option.getD_some]
          rfl
        case r2o4 =>
          intro w1 hG
          go_light
          intro v1 h1
          change _ = _ at h1
          subst h1
          intro v2 h2
          change _ = _ at h2
          subst h2
          intro v3 h3
          change _ = _ at h3
          subst h3
          refine turn_on (by rfl) ?_
          intro K hK
          simp only [List.getD_cons_zero, List.getD_cons_succ, List.setIfInBounds_toArray, List.set_cons_zero, List.set_cons_succ]
          go_simp
          refine hK _ _ ⟨rfl, Kept.refl _, ?_⟩
          show _ = _
          simp only [List.getD_cons_zero, List.getD_cons_succ, Array.getD_eq_getD_getElem?, List.getElem?_toArray, List.getElem?_cons_zero, List.getElem?_cons_succ, Option.getD_some]
          rfl
        case r2o5 =>
          intro w1 hG
          go_light
          intro v1 h1
          change _ = _ at h1
          subst h1
          intro v4 h4
          change _ = _ at h4
          subst h4
          refine turn_on (by rfl) ?_
          intro K hK
          simp only [List.getD_cons_zero, List.getD_cons_succ, List.setIfInBounds_toArray, List.set_cons_zero, List.set_cons_succ]
          go_simp
          refine hK _ _ ⟨rfl, Kept.refl _, ?_⟩
          show _ = _
          simp only [List.getD_cons_zero, List.getD_cons_succ, Array.getD_eq_getD_getElem?, List.getElem?_toArray, List.getElem?_cons_zero, List.getElem?_cons_succ, Option.getD_some]
          rfl
        case r2o6 =>
          intro w1 hG
          go_light
          intro v5 h5
          change _ = _ at h5
          subst h5
          refine turn_on (by rfl) ?_
          intro K hK
          simp only [List.getD_cons_zero, List.getD_cons_succ, List.setIfInBounds_toArray, List.set_cons_zero, List.set_cons_succ]
          go_simp
          refine hK _ _ ⟨rfl, Kept.refl _, ?_⟩
          show _ = _
          simp only [List.getD_cons_zero, List.getD_cons_succ, Array.getD_eq_getD_getElem?, List.getElem?_toArray, List.getElem?_cons_zero, List.getElem?_cons_succ, Option.getD_some]
          rfl
        case r2o7 =>
          intro w1 hG
          go_light
          intro v6 h6
          change _ = _ at h6
          subst h6
          refine turn_on (by rfl) ?_
          intro K hK
          simp only [List.getD_cons_zero, List.getD_cons_succ, List.setIfInBounds_toArray, List.set_cons_zero, List.set_cons_succ]
          go_simp
          refine hK _ _ ⟨rfl, Kept.refl _, ?_⟩
          show _ = _
          simp only [List.getD_cons_zero, List.getD_cons_succ, Array.getD_eq_getD_getElem?, List.getElem?_toArray, List.getElem?_cons_zero, List.getElem?_cons_succ, Option.getD_some]
          rfl
        case r2o8 =>
          intro w1 hG
          go_light
          intro v6 h6
          change _ = _ at h6
          subst h6
          intro v7 h7
          change _ = _ at h7
          subst h7
          refine turn_on (by rfl) ?_
          intro K hK
          simp only [List.getD_cons_zero, List.getD_cons_succ, List.setIfInBounds_toArray, List.set_cons_zero, List.set_cons_succ]
          go_simp
          have hcc := count_any d mb L 0 w1 ((T10.out.at0 (w' := w10.drew) rfl).below hG)
          rw [HC0.out] at hcc
          refine Calls.mono hcc ?_
          rintro e w2 ⟨rfl, hbx⟩
          refine hK _ _ ⟨rfl, hbx, ?_⟩
          show _ = _
          simp only [List.getD_cons_zero, List.getD_cons_succ, Array.getD_eq_getD_getElem?, List.getElem?_toArray, List.getElem?_cons_zero, List.getElem?_cons_succ, Option.getD_some]
          rfl
        case r2o9 =>
          intro w1 hG
          go_light
          intro v6 h6
          change _ = _ at h6
          subst h6
          refine turn_on (by rfl) ?_
          intro K hK
          simp only [List.getD_cons_zero, List.getD_cons_succ, List.setIfInBounds_toArray, List.set_cons_zero, List.set_cons_succ]
          go_simp
          refine hK _ _ ⟨rfl, Kept.refl _, ?_⟩
          show _ = _
          simp only [List.getD_cons_zero, List.getD_cons_succ, Array.getD_eq_getD_getElem?, List.getElem?_toArray, List.getElem?_cons_zero, List.getElem?_cons_succ, Option.getD_some]
          rfl
        case r2o10 =>
          intro w1 hG
          go_light
          intro v6 h6
          change _ = _ at h6
          subst h6
          intro v9 h9
          change _ = _ at h9
          subst h9
          refine turn_on (by rfl) ?_
          intro K hK
          simp only [List.getD_cons_zero, List.getD_cons_succ, List.setIfInBounds_toArray, List.set_cons_zero, List.set_cons_succ]
          go_simp
          have hcc := count_any d mb L 1 w1 ((T10.out.at0 (w' := w10.drew) rfl).below hG)
          rw [HC1.out] at hcc
          refine Calls.mono hcc ?_
          rintro e w2 ⟨rfl, hbx⟩
          refine hK _ _ ⟨rfl, hbx, ?_⟩
          show _ = _
          simp only [List.getD_cons_zero, List.getD_cons_succ, Array.getD_eq_getD_getElem?, List.getElem?_toArray, List.getElem?_cons_zero, List.getElem?_cons_succ, Option.getD_some]
          rfl
        case r2o11 =>
          intro w1 hG
          go_light
          intro v6 h6
          change _ = _ at h6
          subst h6
          intro v8 h8
          change _ = _ at h8
          subst h8
          intro v10 h10
          change _ = _ at h10
          subst h10
          refine turn_on (by rfl) ?_
          intro K hK
          simp only [List.getD_cons_zero, List.getD_cons_succ, List.setIfInBounds_toArray, List.set_cons_zero, List.set_cons_succ]
          go_simp
          refine hK _ _ ⟨rfl, Kept.refl _, ?_⟩
          show _ = _
          simp only [List.getD_cons_zero, List.getD_cons_succ, Array.getD_eq_getD_getElem?, List.getElem?_toArray, List.getElem?_cons_zero, List.getElem?_cons_succ, Option.getD_some]
          rfl
        case r2o12 =>
          intro w1 hG
          go_light
          intro v6 h6
          change _ = _ at h6
          subst h6
          refine turn_on (by rfl) ?_
          intro K hK
          simp only [List.getD_cons_zero, List.getD_cons_succ, List.setIfInBounds_toArray, List.set_cons_zero, List.set_cons_succ]
          go_simp
          refine hK _ _ ⟨rfl, Kept.refl _, ?_⟩
          show _ = _
          simp only [List.getD_cons_zero, List.getD_cons_succ, Array.getD_eq_getD_getElem?, List.getElem?_toArray, List.getElem?_cons_zero, List.getElem?_cons_succ, Option.getD_some]
          rfl
        case r2o13 =>
          intro w1 hG
          go_light
          intro v6 h6
          change _ = _ at h6
          subst h6
          intro v12 h12
          change _ = _ at h12
          subst h12
          refine turn_on (by rfl) ?_
          intro K hK
          simp only [List.getD_cons_zero, List.getD_cons_succ, List.setIfInBounds_toArray, List.set_cons_zero, List.set_cons_succ]
          go_simp
          have hcc := count_any d mb L 2 w1 ((T10.out.at0 (w' := w10.drew) rfl).below hG)
          rw [HC2.out] at hcc
          refine Calls.mono hcc ?_
          rintro e w2 ⟨rfl, hbx⟩
          refine hK _ _ ⟨rfl, hbx, ?_⟩
          show _ = _
          simp only [List.getD_cons_zero, List.getD_cons_succ, Array.getD_eq_getD_getElem?, List.getElem?_toArray, List.getElem?_cons_zero, List.getElem?_cons_succ, Option.getD_some]
          rfl
        case r2o14 =>
          intro w1 hG
          go_light
          intro v6 h6
          change _ = _ at h6
          subst h6
          intro v11 h11
          change _ = _ at h11
          subst h11
          intro v13 h13
          change _ = _ at h13
          subst h13
          refine turn_on (by rfl) ?_
          intro K hK
          simp only [List.getD_cons_zero, List.getD_cons_succ, List.setIfInBounds_toArray, List.set_cons_zero, List.set_cons_succ]
          go_simp
          refine hK _ _ ⟨rfl, Kept.refl _, ?_⟩
          show _ = _
          simp only [List.getD_cons_zero, List.getD_cons_succ, Array.getD_eq_getD_getElem?, List.getElem?_toArray, List.getElem?_cons_zero, List.getElem?_cons_succ, Option.getD_some]
          rfl
        case r2o15 =>
          intro w1 hG
          go_light
          intro v6 h6
          change _ = _ at h6
          subst h6
          refine turn_on (by rfl) ?_
          intro K hK
          simp only [List.getD_cons_zero, List.getD_cons_succ, List.setIfInBounds_toArray, List.set_cons_zero, List.set_cons_succ]
          go_simp
          refine hK _ _ ⟨rfl, Kept.refl _, ?_⟩
          show _ = _
          simp only [List.getD_cons_zero, List.getD_cons_succ, Array.getD_eq_getD_getElem?, List.getElem?_toArray, List.getElem?_cons_zero, List.getElem?_cons_succ, Option.getD_some]
          rfl
        case r2o16 =>
          intro w1 hG
          go_light
          intro v6 h6
          change _ = _ at h6
          subst h6
          intro v15 h15
          change _ = _ at h15
          subst h15
          refine turn_on (by rfl) ?_
          intro K hK
          simp only [List.getD_cons_zero, List.getD_cons_succ, List.setIfInBounds_toArray, List.set_cons_zero, List.set_cons_succ]
          go_simp
          have hcc := count_any d mb L 3 w1 ((T10.out.at0 (w' := w10.drew) rfl).below hG)
          rw [HC3.out] at hcc
          refine Calls.mono hcc ?_
          rintro e w2 ⟨rfl, hbx⟩
          refine hK _ _ ⟨rfl, hbx, ?_⟩
          show _ = _
          simp only [List.getD_cons_zero, List.getD_cons_succ, Array.getD_eq_getD_getElem?, List.getElem?_toArray, List.getElem?_cons_zero, List.getElem?_cons_succ, Option.getD_some]
          rfl
        case r2o17 =>
          intro w1 hG
          go_light
          intro v6 h6
          change _ = _ at h6
          subst h6
          intro v14 h14
          change _ = _ at h14
          subst h14
          intro v16 h16
          change _ = _ at h16
          subst h16
          refine turn_on (by rfl) ?_
          intro K hK
          simp only [List.getD_cons_zero, List.getD_cons_succ, List.setIfInBounds_toArray, List.set_cons_zero, List.set_cons_succ]
          go_simp
          refine hK _ _ ⟨rfl, Kept.refl _, ?_⟩
          show _ = _
          simp only [List.getD_cons_zero, List.getD_cons_succ, Array.getD_eq_getD_getElem?, List.getElem?_toArray, List.getElem?_cons_zero, List.getElem?_cons_succ, Option.getD_some]
          rfl
        case r2o18 =>
          intro w1 hG
          go_light
          intro v6 h6
          change _ = _ at h6
          subst h6
          refine turn_on (by rfl) ?_
          intro K hK
          simp only [List.getD_cons_zero, List.getD_cons_succ, List.setIfInBounds_toArray, List.set_cons_zero, List.set_cons_succ]
          have q0 : w1.cell? ⟨nb, 0, none⟩ = some (.int .i64 (n : Int)) := cell_of_row w1 nb 0 _ _ _ (row_keep (w := w10.drew) V10.out.n hG)
          go_simp
          refine hK _ _ ⟨rfl, Kept.refl _, ?_⟩
          show _ = _
          simp only [List.getD_cons_zero, List.getD_cons_succ, Array.getD_eq_getD_getElem?, List.getElem?_toArray, List.getElem?_cons_zero, List.getElem?_cons_succ, Option.getD_some]
          rfl
        case r2o19 =>
          intro w1 hG
          go_light
          intro v6 h6
          change _ = _ at h6
          subst h6
          intro v17 h17
          change _ = _ at h17
          subst h17
          intro v18 h18
          change _ = _ at h18
          subst h18
          refine turn_on (by rfl) ?_
          intro K hK
          simp only [List.getD_cons_zero, List.getD_cons_succ, List.setIfInBounds_toArray, List.set_cons_zero, List.set_cons_succ]
          go_simp
          refine hK _ _ ⟨rfl, Kept.refl _, ?_⟩
          show _ = _
          simp only [List.getD_cons_zero, List.getD_cons_succ, Array.getD_eq_getD_getElem?, List.getElem?_toArray, List.getElem?_cons_zero, List.getElem?_cons_succ, Option.getD_some]
          rfl
        case r2o20 =>
          intro w1 hG
          go_light
          intro v6 h6
          change _ = _ at h6
          subst h6
          intro v19 h19
          change _ = _ at h19
          subst h19
          refine turn_on (by rfl) ?_
          intro K hK
          simp only [List.getD_cons_zero, List.getD_cons_succ, List.setIfInBounds_toArray, List.set_cons_zero, List.set_cons_succ]
          go_simp
          refine hK _ _ ⟨rfl, Kept.refl _, ?_⟩
          show _ = _
          simp only [List.getD_cons_zero, List.getD_cons_succ, Array.getD_eq_getD_getElem?, List.getElem?_toArray, List.getElem?_cons_zero, List.getElem?_cons_succ, Option.getD_some]
          rfl
        case r2o21 =>
          intro w1 hG
          go_light
          intro v20 h20
          change _ = _ at h20
          subst h20
          refine turn_on (by rfl) ?_
          intro K hK
          simp only [List.getD_cons_zero, List.getD_cons_succ, List.setIfInBounds_toArray, List.set_cons_zero, List.set_cons_succ]
          go_simp
          refine hK _ _ ⟨rfl, Kept.refl _, ?_⟩
          show _ = _
          simp only [List.getD_cons_zero, List.getD_cons_succ, Array.getD_eq_getD_getElem?, List.getElem?_toArray, List.getElem?_cons_zero, List.getElem?_cons_succ, Option.getD_some]
          rfl
      intro w1 hG
      intro v0 h0
      change _ = _ at h0
      subst h0
      intro v1 h1
      change _ = _ at h1
      subst h1
      intro v2 h2
      change _ = _ at h2
      subst h2
      intro v3 h3
      change _ = _ at h3
      subst h3
      intro v4 h4
      change _ = _ at h4
      subst h4
      intro v5 h5
      change _ = _ at h5
      subst h5
      intro v6 h6
      change _ = _ at h6
      subst h6
      intro v7 h7
      change _ = _ at h7
      subst h7
      intro v8 h8
      change _ = _ at h8
      subst h8
      intro v9 h9
      change _ = _ at h9
      subst h9
      intro v10 h10
      change _ = _ at h10
      subst h10
      intro v11 h11
      change _ = _ at h11
      subst h11
      intro v12 h12
      change _ = _ at h12
      subst h12
      intro v13 h13
      change _ = _ at h13
      subst h13
      intro v14 h14
      change _ = _ at h14
      subst h14
      intro v15 h15
      change _ = _ at h15
      subst h15
      intro v16 h16
      change _ = _ at h16
      subst h16
      intro v17 h17
      change _ = _ at h17
      subst h17
      intro v18 h18
      change _ = _ at h18
      subst h18
      intro v19 h19
      change _ = _ at h19
      subst h19
      intro v20 h20
      change _ = _ at h20
      subst h20
      intro v21 h21
      change _ = _ at h21
      subst h21
      simp only [Given, List.getD_cons_zero, List.getD_cons_succ, List.setIfInBounds_toArray, List.set_cons_zero, List.set_cons_succ]
      go_wp2_with fail
      go_ret
      exact ⟨rfl, Below.call hBd hG⟩
    rw [if_neg p1] at hwn
    have e1 : decide (stop < 0) = false := decide_eq_false p1
    by_cases p2 : stop < (n : Int)
    · have e2 : decide (stop < (n : Int)) = true := decide_eq_true p2
      have e3 : IntKind.i64.wrap (stop + 1) = stop + 1 := IntWalk.i64_in _ (by omega)
      rw [if_pos p2] at hwn
      have qe : (((WT : Nat) : Int) == stop + 1) = true := by rw [beq_iff_eq]; omega
      clear p1 p2 hwn
      go_wp2_with fail
      refine' reg_free (G := Kept) (pickF [eqV _, eqV _, eqV _, eqV _, eqV _, eqV _, eqV _, eqV _, eqV _, eqV _, eqV _, eqV _, eqV _, eqV _, eqV _, eqV _, eqV _, eqV _, eqV _, eqV _, eqV _, eqV _]) [69, 70, 71, 72, 73, 74, 75, 76, 77, 78, 79, 80, 81, 82, 83, 84, 85, 86, 87, 88, 89, 6] [[], [0], [1], [1], [1, 2, 3], [1, 4], [5], [6], [6, 7], [6], [6, 9], [6, 8, 10], [6], [6, 12], [6, 11, 13], [6], [6, 15], [6, 14, 16], [6], [6, 17, 18], [6, 19], [20]] [0, 1, 2, 3, 4, 5, 6, 7, 8, 9, 10, 11, 12, 13, 14, 15, 16, 17, 18, 19, 20, 21] (by kernel_rfl) Kept.refl Kept.trans (pick_stays ⟨eqV_stays _, eqV_stays _, eqV_stays _, eqV_stays _, eqV_stays _, eqV_stays _, eqV_stays _, eqV_stays _, eqV_stays _, eqV_stays _, eqV_stays _, eqV_stays _, eqV_stays _, eqV_stays _, eqV_stays _, eqV_stays _, eqV_stays _, eqV_stays _, eqV_stays _, eqV_stays _, eqV_stays _, eqV_stays _, trivial⟩) 90 rfl (by kernel_rfl) (by kernel_rfl) rfl rfl ?r3obl ?r3fin
      case r3obl =>
        refine And.intro ?r3o0 (And.intro ?r3o1 (And.intro ?r3o2 (And.intro ?r3o3 (And.intro ?r3o4 (And.intro ?r3o5 (And.intro ?r3o6 (And.intro ?r3o7 (And.intro ?r3o8 (And.intro ?r3o9 (And.intro ?r3o10 (And.intro ?r3o11 (And.intro ?r3o12 (And.intro ?r3o13 (And.intro ?r3o14 (And.intro ?r3o15 (And.intro ?r3o16 (And.intro ?r3o17 (And.intro ?r3o18 (And.intro ?r3o19 (And.intro ?r3o20 (And.intro ?r3o21 (True.intro))))))))))))))))))))))
        case r3o0 =>
          intro w1 hG
          go_light
          refine turn_on (by rfl) ?_
          intro K hK
          have q0 : w1.cell? ⟨okb, 0, none⟩ = some (.bool true) := cell_of_row w1 okb 0 _ _ _ (row_keep (w := w10.drew) V10.out.o hG)
          go_simp
          refine hK _ _ ⟨rfl, Kept.refl _, ?_⟩
          show _ = _
          simp only [List.getD_cons_zero, List.getD_cons_succ, Array.getD_eq_getD_getElem?, List.getElem?_toArray, List.getElem?_cons_zero, List.getElem?_cons_succ, Option.getD_some]
          rfl
        case r3o1 =>
          intro w1 hG
          go_light
          intro v0 h0
          change _ = _ at h0
          subst h0
          refine turn_on (by rfl) ?_
          intro K hK
          simp only [List.getD_cons_zero, List.getD_cons_succ, List.setIfInBounds_toArray, List.set_cons_zero, List.set_cons_succ]
          go_simp
          refine hK _ _ ⟨rfl, Kept.refl _, ?_⟩
          show _ = _
          simp only [List.getD_cons_zero, List.getD_cons_succ, Array.getD_eq_getD_getElem?, List.getElem?_toArray, List.getElem?_cons_zero, List.getElem?_cons_succ, Option.getD_some]
          rfl
        case r3o2 =>
          intro w1 hG
          go_light
          intro v1 h1
          change _ = _ at h1
          subst h1
          refine turn_on (by rfl) ?_
          intro K hK
          simp only [List.getD_cons_zero, List.getD_cons_succ, List.setIfInBounds_toArray, List.set_cons_zero, List.set_cons_succ]
          have q0 : w1.cell? ⟨kb, 0, none⟩ = some (.int .i64 (WT : Nat)) := cell_of_row w1 kb 0 _ _ _ (row_keep (w := w10.drew) V10.out.k hG)
          go_simp
          refine hK _ _ ⟨rfl, Kept.refl _, ?_⟩
          show _ = _
          simp only [List.getD_cons_zero, List.getD_cons_succ, Array.getD_eq_getD_getElem?, List.getElem?_toArray, List.getElem?_cons_zero, List.getElem?_cons_succ, Option.getD_some]
          rfl
        case r3o3 =>
          intro w1 hG
          go_light
          intro v1 h1
          change _ = _ at h1
          subst h1
          refine turn_on (by rfl) ?_
          intro K hK
          simp only [List.getD_cons_zero, List.getD_cons_succ, List.setIfInBounds_toArray, List.set_cons_zero, List.set_cons_succ]
          go_simp
          refine hK _ _ ⟨rfl, Kept.refl _, ?_⟩
          show _ = _
          simp only [List.getD_cons_zero, List.getD_cons_succ, Array.getD_eq_getD_getElem?, List.getElem?_toArray, List.getElem?_cons_zero, List.getElem?_cons_succ, Option.getD_some]
          rfl
        case r3o4 =>
          intro w1 hG
          go_light
          intro v1 h1
          change _ = _ at h1
          subst h1
          intro v2 h2
          change _ = _ at h2
          subst h2
          intro v3 h3
          change _ = _ at h3
          subst h3
          refine turn_on (by rfl) ?_
          intro K hK
          simp only [List.getD_cons_zero, List.getD_cons_succ, List.setIfInBounds_toArray, List.set_cons_zero, List.set_cons_succ]
          go_simp
          refine hK _ _ ⟨rfl, Kept.refl _, ?_⟩
          show _ = _
          simp only [List.getD_cons_zero, List.getD_cons_succ, Array.getD_eq_getD_getElem?, List.getElem?_toArray, List.getElem?_cons_zero, List.getElem?_cons_succ, Option.getD_some]
          rfl
        case r3o5 =>
          intro w1 hG
          go_light
          intro v1 h1
          change _ = _ at h1
          subst h1
          intro v4 h4
          change _ = _ at h4
          subst h4
          refine turn_on (by rfl) ?_
          intro K hK
          simp only [List.getD_cons_zero, List.getD_cons_succ, List.setIfInBounds_toArray, List.set_cons_zero, List.set_cons_succ]
          go_simp
          refine hK _ _ ⟨rfl, Kept.refl _, ?_⟩
          show _ = _
          simp only [List.getD_cons_zero, List.getD_cons_succ, Array.getD_eq_getD_getElem?, List.getElem?_toArray, List.getElem?_cons_zero, List.getElem?_cons_succ, Option.getD_some]
          rfl
        case r3o6 =>
          intro w1 hG
          go_light
          intro v5 h5
          change _ = _ at h5
          subst h5
          refine turn_on (by rfl) ?_
          intro K hK
          simp only [List.getD_cons_zero, List.getD_cons_succ, List.setIfInBounds_toArray, List.set_cons_zero, List.set_cons_succ]
          go_simp
          refine hK _ _ ⟨rfl, Kept.refl _, ?_⟩
          show _ = _
          simp only [List.getD_cons_zero, List.getD_cons_succ, Array.getD_eq_getD_getElem?, List.getElem?_toArray, List.getElem?_cons_zero, List.getElem?_cons_succ, Option.getD_some]
          rfl
        case r3o7 =>
          intro w1 hG
          go_light
          intro v6 h6
          change _ = _ at h6
          subst h6
          refine turn_on (by rfl) ?_
          intro K hK
          simp only [List.getD_cons_zero, List.getD_cons_succ, List.setIfInBounds_toArray, List.set_cons_zero, List.set_cons_succ]
          go_simp
          refine hK _ _ ⟨rfl, Kept.refl _, ?_⟩
          show _ = _
          simp only [List.getD_cons_zero, List.getD_cons_succ, Array.getD_eq_getD_getElem?, List.getElem?_toArray, List.getElem?_cons_zero, List.getElem?_cons_succ, Option.getD_some]
          rfl
        case r3o8 =>
          intro w1 hG
          go_light
          intro v6 h6
          change _ = _ at h6
          subst h6
          intro v7 h7
          change _ = _ at h7
          subst h7
          refine turn_on (by rfl) ?_
          intro K hK
          simp only [List.getD_cons_zero, List.getD_cons_succ, List.setIfInBounds_toArray, List.set_cons_zero, List.set_cons_succ]
          go_simp
          have hcc := count_any d mb L 0 w1 ((T10.out.at0 (w' := w10.drew) rfl).below hG)
          rw [HC0.out] at hcc
          refine Calls.mono hcc ?_
          rintro e w2 ⟨rfl, hbx⟩
          refine hK _ _ ⟨rfl, hbx, ?_⟩
          show _ = _
          simp only [List.getD_cons_zero, List.getD_cons_succ, Array.getD_eq_getD_getElem?, List.getElem?_toArray, List.getElem?_cons_zero, List.getElem?_cons_succ, Option.getD_some]
          rfl
        case r3o9 =>
          intro w1 hG
          go_light
          intro v6 h6
          change _ = _ at h6
          subst h6
          refine turn_on (by rfl) ?_
          intro K hK
          simp only [List.getD_cons_zero, List.getD_cons_succ, List.setIfInBounds_toArray, List.set_cons_zero, List.set_cons_succ]
          go_simp
          refine hK _ _ ⟨rfl, Kept.refl _, ?_⟩
          show _ = _
          simp only [List.getD_cons_zero, List.getD_cons_succ, Array.getD_eq_getD_getElem?, List.getElem?_toArray, List.getElem?_cons_zero, List.getElem?_cons_succ, Option.getD_some]
          rfl
        case r3o10 =>
          intro w1 hG
          go_light
          intro v6 h6
          change _ = _ at h6
          subst h6
          intro v9 h9
          change _ = _ at h9
          subst h9
          refine turn_on (by rfl) ?_
          intro K hK
          simp only [List.getD_cons_zero, List.getD_cons_succ, List.setIfInBounds_toArray, List.set_cons_zero, List.set_cons_succ]
          go_simp
          have hcc := count_any d mb L 1 w1 ((T10.out.at0 (w' := w10.drew) rfl).below hG)
          rw [HC1.out] at hcc
          refine Calls.mono hcc ?_
          rintro e w2 ⟨rfl, hbx⟩
          refine hK _ _ ⟨rfl, hbx, ?_⟩
          show _ = _
          simp only [List.getD_cons_zero, List.getD_cons_succ, Array.getD_eq_getD_getElem?, List.getElem?_toArray, List.getElem?_cons_zero, List.getElem?_cons_succ, Option.getD_some]
          rfl
        case r3o11 =>
          intro w1 hG
          go_light
          intro v6 h6
          change _ = _ at h6
          subst h6
          intro v8 h8
          change _ = _ at h8
          subst h8
          intro v10 h10
          change _ = _ at h10
          subst h10
          refine turn_on (by rfl) ?_
          intro K hK
          simp only [List.getD_cons_zero, List.getD_cons_succ, List.setIfInBounds_toArray, List.set_cons_zero, List.set_cons_succ]
          go_simp
          refine hK _ _ ⟨rfl, Kept.refl _, ?_⟩
          show _ = _
          simp only [List.getD_cons_zero, List.getD_cons_succ, Array.getD_eq_getD_getElem?, List.getElem?_toArray, List.getElem?_cons_zero, List.getElem?_cons_succ, Option.getD_some]
          rfl
        case r3o12 =>
          intro w1 hG
          go_light
          intro v6 h6
          change _ = _ at h6
          subst h6
          refine turn_on (by rfl) ?_
          intro K hK
          simp only [List.getD_cons_zero, List.getD_cons_succ, List.setIfInBounds_toArray, List.set_cons_zero, List.set_cons_succ]
          go_simp
          refine hK _ _ ⟨rfl, Kept.refl _, ?_⟩
          show _ = _
          simp only [List.getD_cons_zero, List.getD_cons_succ, Array.getD_eq_getD_getElem?, List.getElem?_toArray, List.getElem?_cons_zero, List.getElem?_cons_succ, Option.getD_some]
          rfl
        case r3o13 =>
          intro w1 hG
          go_light
          intro v6 h6
          change _ = _ at h6
          subst h6
          intro v12 h12
          change _ = _ at h12
          subst h12
          refine turn_on (by rfl) ?_
          intro K hK
          simp only [List.getD_cons_zero, List.getD_cons_succ, List.setIfInBounds_toArray, List.set_cons_zero, List.set_cons_succ]
          go_simp
          have hcc := count_any d mb L 2 w1 ((T10.out.at0 (w' := w10.drew) rfl).below hG)
          rw [HC2.out] at hcc
          refine Calls.mono hcc ?_
          rintro e w2 ⟨rfl, hbx⟩
          refine hK _ _ ⟨rfl, hbx, ?_⟩
          show _ = _
          simp only [List.getD_cons_zero, List.getD_cons_succ, Array.getD_eq_getD_getElem?, List.getElem?_toArray, List.getElem?_cons_zero, List.getElem?_cons_succ, Option.getD_some]
          rfl
        case r3o14 =>
          intro w1 hG
          go_light
          intro v6 h6
          change _ = _ at h6
          subst h6
          intro v11 h11
          change _ = _ at h11
          subst h11
          intro v13 h13
          change _ = _ at h13
          subst h13
          refine turn_on (by rfl) ?_
          intro K hK
          simp only [List.getD_cons_zero, List.getD_cons_succ, List.setIfInBounds_toArray, List.set_cons_zero, List.set_cons_succ]
          go_simp
          refine hK _ _ ⟨rfl, Kept.refl _, ?_⟩
          show _ = _
          simp only [List.getD_cons_zero, List.getD_cons_succ, Array.getD_eq_getD_getElem?, List.getElem?_toArray, List.getElem?_cons_zero, List.getElem?_cons_succ, Option.getD_some]
          rfl
        case r3o15 =>
          intro w1 hG
          go_light
          intro v6 h6
          change _ = _ at h6
          subst h6
          refine turn_on (by rfl) ?_
          intro K hK
          simp only [List.getD_cons_zero, List.getD_cons_succ, List.setIfInBounds_toArray, List.set_cons_zero, List.set_cons_succ]
          go_simp
          refine hK _ _ ⟨rfl, Kept.refl _, ?_⟩
          show _ = _
          simp only [List.getD_cons_zero, List.getD_cons_succ, Array.getD_eq_getD_getElem?, List.getElem?_toArray, List.getElem?_cons_zero, List.getElem?_cons_succ, Option.getD_some]
          rfl
        case r3o16 =>
          intro w1 hG
          go_light
          intro v6 h6
          change _ = _ at h6
          subst h6
          intro v15 h15
          change _ = _ at h15
          subst h15
          refine turn_on (by rfl) ?_
          intro K hK
          simp only [List.getD_cons_zero, List.getD_cons_succ, List.setIfInBounds_toArray, List.set_cons_zero, List.set_cons_succ]
          go_simp
          have hcc := count_any d mb L 3 w1 ((T10.out.at0 (w' := w10.drew) rfl).below hG)
          rw [HC3.out] at hcc
          refine Calls.mono hcc ?_
          rintro e w2 ⟨rfl, hbx⟩
          refine hK _ _ ⟨rfl, hbx, ?_⟩
          show _ = _
          simp only [List.getD_cons_zero, List.getD_cons_succ, Array.getD_eq_getD_getElem?, List.getElem?_toArray, List.getElem?_cons_zero, List.getElem?_cons_succ, Option.getD_some]
          rfl
        case r3o17 =>
          intro w1 hG
          go_light
          intro v6 h6
          change _ = _ at h6
          subst h6
          intro v14 h14
          change _ = _ at h14
          subst h14
          intro v16 h16
          change _ = _ at h16
          subst h16
          refine turn_on (by rfl) ?_
          intro K hK
          simp only [List.getD_cons_zero, List.getD_cons_succ, List.setIfInBounds_toArray, List.set_cons_zero, List.set_cons_succ]
          go_simp
          refine hK _ _ ⟨rfl, Kept.refl _, ?_⟩
          show _ = _
          simp only [List.getD_cons_zero, List.getD_cons_succ, Array.getD_eq_getD_getElem?, List.getElem?_toArray, List.getElem?_cons_zero, List.getElem?_cons_succ, Option.getD_some]
          rfl
        case r3o18 =>
          intro w1 hG
          go_light
          intro v6 h6
          change _ = _ at h6
          subst h6
          refine turn_on (by rfl) ?_
          intro K hK
          simp only [List.getD_cons_zero, List.getD_cons_succ, List.setIfInBounds_toArray, List.set_cons_zero, List.set_cons_succ]
          have q0 : w1.cell? ⟨nb, 0, none⟩ = some (.int .i64 (n : Int)) := cell_of_row w1 nb 0 _ _ _ (row_keep (w := w10.drew) V10.out.n hG)
          go_simp
          refine hK _ _ ⟨rfl, Kept.refl _, ?_⟩
          show _ = _
          simp only [List.getD_cons_zero, List.getD_cons_succ, Array.getD_eq_getD_getElem?, List.getElem?_toArray, List.getElem?_cons_zero, List.getElem?_cons_succ, Option.getD_some]
          rfl
        case r3o19 =>
          intro w1 hG
          go_light
          intro v6 h6
          change _ = _ at h6
          subst h6
          intro v17 h17
          change _ = _ at h17
          subst h17
          intro v18 h18
          change _ = _ at h18
          subst h18
          refine turn_on (by rfl) ?_
          intro K hK
          simp only [List.getD_cons_zero, List.getD_cons_succ, List.setIfInBounds_toArray, List.set_cons_zero, List.set_cons_succ]
          go_simp
          refine hK _ _ ⟨rfl, Kept.refl _, ?_⟩
          show _ = _
          simp only [List.getD_cons_zero, List.getD_cons_succ, Array.getD_eq_getD_getElem?, List.getElem?_toArray, List.getElem?_cons_zero, List.getElem?_cons_succ, Option.getD_some]
          rfl
        case r3o20 =>
          intro w1 hG
          go_light
          intro v6 h6
          change _ = _ at h6
          subst h6
          intro v19 h19
          change _ = _ at h19
          subst h19
          refine turn_on (by rfl) ?_
          intro K hK
          simp only [List.getD_cons_zero, List.getD_cons_succ, List.setIfInBounds_toArray, List.set_cons_zero, List.set_cons_succ]
          go_simp
          refine hK _ _ ⟨rfl, Kept.refl _, ?_⟩
          show _ = _
          simp only [List.getD_cons_zero, List.getD_cons_succ, Array.getD_eq_getD_getElem?, List.getElem?_toArray, List.getElem?_cons_zero, List.getElem?_cons_succ, Option.getD_some]
          rfl
        case r3o21 =>
          intro w1 hG
          go_light
          intro v20 h20
          change _ = _ at h20
          subst h20
          refine turn_on (by rfl) ?_
          intro K hK
          simp only [List.getD_cons_zero, List.getD_cons_succ, List.setIfInBounds_toArray, List.set_cons_zero, List.set_cons_succ]
          go_simp
          refine hK _ _ ⟨rfl, Kept.refl _, ?_⟩
          show _ = _
          simp only [List.getD_cons_zero, List.getD_cons_succ, Array.getD_eq_getD_getElem?, List.getElem?_toArray, List.getElem?_cons_zero, List.getElem?_cons_succ, Option.getD_some]
          rfl
      intro w1 hG
      intro v0 h0
      change _ = _ at h0
      subst h0
      intro v1 h1
      change _ = _ at h1
      subst h1
      intro v2 h2
      change _ = _ at h2
      subst h2
      intro v3 h3
      change _ = _ at h3
      subst h3
      intro v4 h4
      change _ = _ at h4
      subst h4
      intro v5 h5
      change _ = _ at h5
      subst h5
      intro v6 h6
      change _ = _ at h6
      subst h6
      intro v7 h7
      change _ = _ at h7
      subst h7
      intro v8 h8
      change _ = _ at h8
      subst h8
      intro v9 h9
      change _ = _ at h9
      subst h9
      intro v10 h10
      change _ = _ at h10
      subst h10
      intro v11 h11
      change _ = _ at h11
      subst h11
      intro v12 h12
      change _ = _ at h12
      subst h12
      intro v13 h13
      change _ = _ at h13
      subst h13
      intro v14 h14
      change _ = _ at h14
      subst h14
      intro v15 h15
      change _ = _ at h15
      subst h15
      intro v16 h16
      change _ = _ at h16
      subst h16
      intro v17 h17
      change _ = _ at h17
      subst h17
      intro v18 h18
      change _ = _ at h18
      subst h18
      intro v19 h19
      change _ = _ at h19
      subst h19
      intro v20 h20
      change _ = _ at h20
      subst h20
      intro v21 h21
      change _ = _ at h21
      subst h21
      simp only [Given, List.getD_cons_zero, List.getD_cons_succ, List.setIfInBounds_toArray, List.set_cons_zero, List.set_cons_succ]
      go_wp2_with fail
      go_ret
      exact ⟨rfl, Below.call hBd hG⟩
    · have e2 : decide (stop < (n : Int)) = false := decide_eq_false p2
      rw [if_neg p2] at hwn
      have qe : (((WT : Nat) : Int) == (n : Int)) = true := by rw [hwn]; simp
      clear p1 p2 hwn
      go_wp2_with fail
      refine' reg_free (G := Kept) (pickF [eqV _, eqV _, eqV _, eqV _, eqV _, eqV _, eqV _, eqV _, eqV _, eqV _, eqV _, eqV _, eqV _, eqV _, eqV _, eqV _, eqV _, eqV _, eqV _, eqV _, eqV _, eqV _]) [69, 70, 71, 72, 73, 74, 75, 76, 77, 78, 79, 80, 81, 82, 83, 84, 85, 86, 87, 88, 89, 6] [[], [0], [1], [1], [1, 2, 3], [1, 4], [5], [6], [6, 7], [6], [6, 9], [6, 8, 10], [6], [6, 12], [6, 11, 13], [6], [6, 15], [6, 14, 16], [6], [6, 17, 18], [6, 19], [20]] [0, 1, 2, 3, 4, 5, 6, 7, 8, 9, 10, 11, 12, 13, 14, 15, 16, 17, 18, 19, 20, 21] (by kernel_rfl) Kept.refl Kept.trans (pick_stays ⟨eqV_stays _, eqV_stays _, eqV_stays _, eqV_stays _, eqV_stays _, eqV_stays _, eqV_stays _, eqV_stays _, eqV_stays _, eqV_stays _, eqV_stays _, eqV_stays _, eqV_stays _, eqV_stays _, eqV_stays _, eqV_stays _, eqV_stays _, eqV_stays _, eqV_stays _, eqV_stays _, eqV_stays _, eqV_stays _, trivial⟩) 90 rfl (by kernel_rfl) (by kernel_rfl) rfl rfl ?r4obl ?r4fin
      case r4obl =>
        refine And.intro ?r4o0 (And.intro ?r4o1 (And.intro ?r4o2 (And.intro ?r4o3 (And.intro ?r4o4 (And.intro ?r4o5 (And.intro ?r4o6 (And.intro ?r4o7 (And.intro ?r4o8 (And.intro ?r4o9 (And.intro ?r4o10 (And.intro ?r4o11 (And.intro ?r4o12 (And.intro ?r4o13 (And.intro ?r4o14 (And.intro ?r4o15 (And.intro ?r4o16 (And.intro ?r4o17 (And.intro ?r4o18 (And.intro ?r4o19 (And.intro ?r4o20 (And.intro ?r4o21 (True.intro))))))))))))))))))))))
        case r4o0 =>
          intro w1 hG
          go_light
          refine turn_on (by rfl) ?_
          intro K hK
          have q0 : w1.cell? ⟨okb, 0, none⟩ = some (.bool true) := cell_of_row w1 okb 0 _ _ _ (row_keep (w := w10.drew) V10.out.o hG)
          go_simp
          refine hK _ _ ⟨rfl, Kept.refl _, ?_⟩
          show _ = _
          simp only [List.getD_cons_zero, List.getD_cons_succ, Array.getD_eq_getD_getElem?, List.getElem?_toArray, List.getElem?_cons_zero, List.getElem?_cons_succ, Option.getD_some]
          rfl
        case r4o1 =>
          intro w1 hG
          go_light
          intro v0 h0
          change _ = _ at h0
          subst h0
          refine turn_on (by rfl) ?_
          intro K hK
          simp only [List.getD_cons_zero, List.getD_cons_succ, List.setIfInBounds_toArray, List.set_cons_zero, List.set_cons_succ]
          go_simp
          refine hK _ _ ⟨rfl, Kept.refl _, ?_⟩
          show _ = _
          simp only [List.getD_cons_zero, List.getD_cons_succ, Array.getD_eq_getD_getElem?, List.getElem?_toArray, List.getElem?_cons_zero, List.getElem?_cons_succ, Option.getD_some]
          rfl
        case r4o2 =>
          intro w1 hG
          go_light
          intro v1 h1
          change _ = _ at h1
          subst h1
          refine turn_on (by rfl) ?_
          intro K hK
          simp only [List.getD_cons_zero, List.getD_cons_succ, List.setIfInBounds_toArray, List.set_cons_zero, List.set_cons_succ]
          have q0 : w1.cell? ⟨kb, 0, none⟩ = some (.int .i64 (WT : Nat)) := cell_of_row w1 kb 0 _ _ _ (row_keep (w := w10.drew) V10.out.k hG)
          go_simp
          refine hK _ _ ⟨rfl, Kept.refl _, ?_⟩
          show _ = _
          simp only [List.getD_cons_zero, List.getD_cons_succ, Array.getD_eq_getD_getElem?, List.getElem?_toArray, List.getElem?_cons_zero, List.getElem?_cons_succ, Option.getD_some]
          rfl
        case r4o3 =>
          intro w1 hG
          go_light
          intro v1 h1
          change _ = _ at h1
          subst h1
          refine turn_on (by rfl) ?_
          intro K hK
          simp only [List.getD_cons_zero, List.getD_cons_succ, List.setIfInBounds_toArray, List.set_cons_zero, List.set_cons_succ]
          go_simp
          refine hK _ _ ⟨rfl, Kept.refl _, ?_⟩
          show _ = _
          simp only [List.getD_cons_zero, List.getD_cons_succ, Array.getD_eq_getD_getElem?, List.getElem?_toArray, List.getElem?_cons_zero, List.getElem?_cons_succ, Option.getD_some]
          rfl
        case r4o4 =>
          intro w1 hG
          go_light
          intro v1 h1
          change _ = _ at h1
          subst h1
          intro v2 h2
          change _ = _ at h2
          subst h2
          intro v3 h3
          change _ = _ at h3
          subst h3
          refine turn_on (by rfl) ?_
          intro K hK
          simp only [List.getD_cons_zero, List.getD_cons_succ, List.setIfInBounds_toArray, List.set_cons_zero, List.set_cons_succ]
          go_simp
          refine hK _ _ ⟨rfl, Kept.refl _, ?_⟩
          show _ = _
          simp only [List.getD_cons_zero, List.getD_cons_succ, Array.getD_eq_getD_getElem?, List.getElem?_toArray, List.getElem?_cons_zero, List.getElem?_cons_succ, Option.getD_some]
          rfl
        case r4o5 =>
          intro w1 hG
          go_light
          intro v1 h1
          change _ = _ at h1
          subst h1
          intro v4 h4
          change _ = _ at h4
          subst h4
          refine turn_on (by rfl) ?_
          intro K hK
          simp only [List.getD_cons_zero, List.getD_cons_succ, List.setIfInBounds_toArray, List.set_cons_zero, List.set_cons_succ]
          go_simp
          refine hK _ _ ⟨rfl, Kept.refl _, ?_⟩
          show _ = _
          simp only [List.getD_cons_zero, List.getD_cons_succ, Array.getD_eq_getD_getElem?, List.getElem?_toArray, List.getElem?_cons_zero, List.getElem?_cons_succ, Option.getD_some]
          rfl
        case r4o6 =>
          intro w1 hG
          go_light
          intro v5 h5
          change _ = _ at h5
          subst h5
          refine turn_on (by rfl) ?_
          intro K hK
          simp only [List.getD_cons_zero, List.getD_cons_succ, List.setIfInBounds_toArray, List.set_cons_zero, List.set_cons_succ]
          go_simp
          refine hK _ _ ⟨rfl, Kept.refl _, ?_⟩
          show _ = _
          simp only [List.getD_cons_zero, List.getD_cons_succ, Array.getD_eq_getD_getElem?, List.getElem?_toArray, List.getElem?_cons_zero, List.getElem?_cons_succ, Option.getD_some]
          rfl
        case r4o7 =>
          intro w1 hG
          go_light
          intro v6 h6
          change _ = _ at h6
          subst h6
          refine turn_on (by rfl) ?_
          intro K hK
          simp only [List.getD_cons_zero, List.getD_cons_succ, List.setIfInBounds_toArray, List.set_cons_zero, List.set_cons_succ]
          go_simp
          refine hK _ _ ⟨rfl, Kept.refl _, ?_⟩
          show _ = _
          simp only [List.getD_cons_zero, List.getD_cons_succ, Array.getD_eq_getD_getElem?, List.getElem?_toArray, List.getElem?_cons_zero, List.getElem?_cons_succ, Option.getD_some]
          rfl
        case r4o8 =>
          intro w1 hG
          go_light
          intro v6 h6
          change _ = _ at h6
          subst h6
          intro v7 h7
          change _ = _ at h7
          subst h7
          refine turn_on (by rfl) ?_
          intro K hK
          simp only [List.getD_cons_zero, List.getD_cons_succ, List.setIfInBounds_toArray, List.set_cons_zero, List.set_cons_succ]
          go_simp
          have hcc := count_any d mb L 0 w1 ((T10.out.at0 (w' := w10.drew) rfl).below hG)
          rw [HC0.out] at hcc
          refine Calls.mono hcc ?_
          rintro e w2 ⟨rfl, hbx⟩
          refine hK _ _ ⟨rfl, hbx, ?_⟩
          show _ = _
          simp only [List.getD_cons_zero, List.getD_cons_succ, Array.getD_eq_getD_getElem?, List.getElem?_toArray, List.getElem?_cons_zero, List.getElem?_cons_succ, Option.getD_some]
          rfl
        case r4o9 =>
          intro w1 hG
          go_light
          intro v6 h6
          change _ = _ at h6
          subst h6
          refine turn_on (by rfl) ?_
          intro K hK
          simp only [List.getD_cons_zero, List.getD_cons_succ, List.setIfInBounds_toArray, List.set_cons_zero, List.set_cons_succ]
          go_simp
          refine hK _ _ ⟨rfl, Kept.refl _, ?_⟩
          show _ = _
          simp only [List.getD_cons_zero, List.getD_cons_succ, Array.getD_eq_getD_getElem?, List.getElem?_toArray, List.getElem?_cons_zero, List.getElem?_cons_succ, Option.getD_some]
          rfl
        case r4o10 =>
          intro w1 hG
          go_light
          intro v6 h6
          change _ = _ at h6
          subst h6
          intro v9 h9
          change _ = _ at h9
          subst h9
          refine turn_on (by rfl) ?_
          intro K hK
          simp only [List.getD_cons_zero, List.getD_cons_succ, List.setIfInBounds_toArray, List.set_cons_zero, List.set_cons_succ]
          go_simp
          have hcc := count_any d mb L 1 w1 ((T10.out.at0 (w' := w10.drew) rfl).below hG)
          rw [HC1.out] at hcc
          refine Calls.mono hcc ?_
          rintro e w2 ⟨rfl, hbx⟩
          refine hK _ _ ⟨rfl, hbx, ?_⟩
          show _ = _
          simp only [List.getD_cons_zero, List.getD_cons_succ, Array.getD_eq_getD_getElem?, List.getElem?_toArray, List.getElem?_cons_zero, List.getElem?_cons_succ, Option.getD_some]
          rfl
        case r4o11 =>
          intro w1 hG
          go_light
          intro v6 h6
          change _ = _ at h6
          subst h6
          intro v8 h8
          change _ = _ at h8
          subst h8
          intro v10 h10
          change _ = _ at h10
          subst h10
          refine turn_on (by rfl) ?_
          intro K hK
          simp only [List.getD_cons_zero, List.getD_cons_succ, List.setIfInBounds_toArray, List.set_cons_zero, List.set_cons_succ]
          go_simp
          refine hK _ _ ⟨rfl, Kept.refl _, ?_⟩
          show _ = _
          simp only [List.getD_cons_zero, List.getD_cons_succ, Array.getD_eq_getD_getElem?, List.getElem?_toArray, List.getElem?_cons_zero, List.getElem?_cons_succ, Option.getD_some]
          rfl
        case r4o12 =>
          intro w1 hG
          go_light
          intro v6 h6
          change _ = _ at h6
          subst h6
          refine turn_on (by rfl) ?_
          intro K hK
          simp only [List.getD_cons_zero, List.getD_cons_succ, List.setIfInBounds_toArray, List.set_cons_zero, List.set_cons_succ]
          go_simp
          refine hK _ _ ⟨rfl, Kept.refl _, ?_⟩
          show _ = _
          simp only [List.getD_cons_zero, List.getD_cons_succ, Array.getD_eq_getD_getElem?, List.getElem?_toArray, List.getElem?_cons_zero, List.getElem?_cons_succ, Option.getD_some]
          rfl
        case r4o13 =>
          intro w1 hG
          go_light
          intro v6 h6
          change _ = _ at h6
          subst h6
          intro v12 h12
          change _ = _ at h12
          subst h12
          refine turn_on (by rfl) ?_
          intro K hK
          simp only [List.getD_cons_zero, List.getD_cons_succ, List.setIfInBounds_toArray, List.set_cons_zero, List.set_cons_succ]
          go_simp
          have hcc := count_any d mb L 2 w1 ((T10.out.at0 (w' := w10.drew) rfl).below hG)
          rw [HC2.out] at hcc
          refine Calls.mono hcc ?_
          rintro e w2 ⟨rfl, hbx⟩
          refine hK _ _ ⟨rfl, hbx, ?_⟩
          show _ = _
          simp only [List.getD_cons_zero, List.getD_cons_succ, Array.getD_eq_getD_getElem?, List.getElem?_toArray, List.getElem?_cons_zero, List.getElem?_cons_succ, Option.getD_some]
          rfl
        case r4o14 =>
          intro w1 hG
          go_light
          intro v6 h6
          change _ = _ at h6
          subst h6
          intro v11 h11
          change _ = _ at h11
          subst h11
          intro v13 h13
          change _ = _ at h13
          subst h13
          refine turn_on (by rfl) ?_
          intro K hK
          simp only [List.getD_cons_zero, List.getD_cons_succ, List.setIfInBounds_toArray, List.set_cons_zero, List.set_cons_succ]
          go_simp
          refine hK _ _ ⟨rfl, Kept.refl _, ?_⟩
          show _ = _
          simp only [List.getD_cons_zero, List.getD_cons_succ, Array.getD_eq_getD_getElem?, List.getElem?_toArray, List.getElem?_cons_zero, List.getElem?_cons_succ, Option.getD_some]
          rfl
        case r4o15 =>
          intro w1 hG
          go_light
          intro v6 h6
          change _ = _ at h6
          subst h6
          refine turn_on (by rfl) ?_
          intro K hK
          simp only [List.getD_cons_zero, List.getD_cons_succ, List.setIfInBounds_toArray, List.set_cons_zero, List.set_cons_succ]
          go_simp
          refine hK _ _ ⟨rfl, Kept.refl _, ?_⟩
          show _ = _
          simp only [List.getD_cons_zero, List.getD_cons_succ, Array.getD_eq_getD_getElem?, List.getElem?_toArray, List.getElem?_cons_zero, List.getElem?_cons_succ, Option.getD_some]
          rfl
        case r4o16 =>
          intro w1 hG
          go_light
          intro v6 h6
          change _ = _ at h6
          subst h6
          intro v15 h15
          change _ = _ at h15
          subst h15
          refine turn_on (by rfl) ?_
          intro K hK
          simp only [List.getD_cons_zero, List.getD_cons_succ, List.setIfInBounds_toArray, List.set_cons_zero, List.set_cons_succ]
          go_simp
          have hcc := count_any d mb L 3 w1 ((T10.out.at0 (w' := w10.drew) rfl).below hG)
          rw [HC3.out] at hcc
          refine Calls.mono hcc ?_
          rintro e w2 ⟨rfl, hbx⟩
          refine hK _ _ ⟨rfl, hbx, ?_⟩
          show _ = _
          simp only [List.getD_cons_zero, List.getD_cons_succ, Array.getD_eq_getD_getElem?, List.getElem?_toArray, List.getElem?_cons_zero, List.getElem?_cons_succ, Option.getD_some]
          rfl
        case r4o17 =>
          intro w1 hG
          go_light
          intro v6 h6
          change _ = _ at h6
          subst h6
          intro v14 h14
          change _ = _ at h14
          subst h14
          intro v16 h16
          change _ = _ at h16
          subst h16
          refine turn_on (by rfl) ?_
          intro K hK
          simp only [List.getD_cons_zero, List.getD_cons_succ, List.setIfInBounds_toArray, List.set_cons_zero, List.set_cons_succ]
          go_simp
          refine hK _ _ ⟨rfl, Kept.refl _, ?_⟩
          show _ = _
          simp only [List.getD_cons_zero, List.getD_cons_succ, Array.getD_eq_getD_getElem?, List.getElem?_toArray, List.getElem?_cons_zero, List.getElem?_cons_succ, Option.getD_some]
          rfl
        case r4o18 =>
          intro w1 hG
          go_light
          intro v6 h6
          change _ = _ at h6
          subst h6
          refine turn_on (by rfl) ?_
          intro K hK
          simp only [List.getD_cons_zero, List.getD_cons_succ, List.setIfInBounds_toArray, List.set_cons_zero, List.set_cons_succ]
          have q0 : w1.cell? ⟨nb, 0, none⟩ = some (.int .i64 (n : Int)) := cell_of_row w1 nb 0 _ _ _ (row_keep (w := w10.drew) V10.out.n hG)
          go_simp
          refine hK _ _ ⟨rfl, Kept.refl _, ?_⟩
          show _ = _
          simp only [List.getD_cons_zero, List.getD_cons_succ, Array.getD_eq_getD_getElem?, List.getElem?_toArray, List.getElem?_cons_zero, List.getElem?_cons_succ, Option.getD_some]
          rfl
        case r4o19 =>
          intro w1 hG
          go_light
          intro v6 h6
          change _ = _ at h6
          subst h6
          intro v17 h17
          change _ = _ at h17
          subst h17
          intro v18 h18
          change _ = _ at h18
          subst h18
          refine turn_on (by rfl) ?_
          intro K hK
          simp only [List.getD_cons_zero, List.getD_cons_succ, List.setIfInBounds_toArray, List.set_cons_zero, List.set_cons_succ]
          go_simp
          refine hK _ _ ⟨rfl, Kept.refl _, ?_⟩
          show _ = _
          simp only [List.getD_cons_zero, List.getD_cons_succ, Array.getD_eq_getD_getElem?, List.getElem?_toArray, List.getElem?_cons_zero, List.getElem?_cons_succ, Option.getD_some]
          rfl
        case r4o20 =>
          intro w1 hG
          go_light
          intro v6 h6
          change _ = _ at h6
          subst h6
          intro v19 h19
          change _ = _ at h19
          subst h19
          refine turn_on (by rfl) ?_
          intro K hK
          simp only [List.getD_cons_zero, List.getD_cons_succ, List.setIfInBounds_toArray, List.set_cons_zero, List.set_cons_succ]
          go_simp
          refine hK _ _ ⟨rfl, Kept.refl _, ?_⟩
          show _ = _
          simp only [List.getD_cons_zero, List.getD_cons_succ, Array.getD_eq_getD_getElem?, List.getElem?_toArray, List.getElem?_cons_zero, List.getElem?_cons_succ, Option.getD_some]
          rfl
        case r4o21 =>
          intro w1 hG
          go_light
          intro v20 h20
          change _ = _ at h20
          subst h20
          refine turn_on (by rfl) ?_
          intro K hK
          simp only [List.getD_cons_zero, List.getD_cons_succ, List.setIfInBounds_toArray, List.set_cons_zero, List.set_cons_succ]
          go_simp
          refine hK _ _ ⟨rfl, Kept.refl _, ?_⟩
          show _ = _
          simp only [List.getD_cons_zero, List.getD_cons_succ, Array.getD_eq_getD_getElem?, List.getElem?_toArray, List.getElem?_cons_zero, List.getElem?_cons_succ, Option.getD_some]
          rfl
      intro w1 hG
      intro v0 h0
      change _ = _ at h0
      subst h0
      intro v1 h1
      change _ = _ at h1
      subst h1
      intro v2 h2
      change _ = _ at h2
      subst h2
      intro v3 h3
      change _ = _ at h3
      subst h3
      intro v4 h4
      change _ = _ at h4
      subst h4
      intro v5 h5
      change _ = _ at h5
      subst h5
      intro v6 h6
      change _ = _ at h6
      subst h6
      intro v7 h7
      change _ = _ at h7
      subst h7
      intro v8 h8
      change _ = _ at h8
      subst h8
      intro v9 h9
      change _ = _ at h9
      subst h9
      intro v10 h10
      change _ = _ at h10
      subst h10
      intro v11 h11
      change _ = _ at h11
      subst h11
      intro v12 h12
      change _ = _ at h12
      subst h12
      intro v13 h13
      change _ = _ at h13
      subst h13
      intro v14 h14
      change _ = _ at h14
      subst h14
      intro v15 h15
      change _ = _ at h15
      subst h15
      intro v16 h16
      change _ = _ at h16
      subst h16
      intro v17 h17
      change _ = _ at h17
      subst h17
      intro v18 h18
      change _ = _ at h18
      subst h18
      intro v19 h19
      change _ = _ at h19
      subst h19
      intro v20 h20
      change _ = _ at h20
      subst h20
      intro v21 h21
      change _ = _ at h21
      subst h21
      simp only [Given, List.getD_cons_zero, List.getD_cons_succ, List.setIfInBounds_toArray, List.set_cons_zero, List.set_cons_succ]
      go_wp2_with fail
      go_ret
      exact ⟨rfl, Below.call hBd hG⟩
set_option maxRecDepth 100000 in
theorem segsEach_walk (n : Int) (a : Option Addr) (len c : Nat) (acts : List ActS) (stop : Int) (w : World) (_ : (Lit.int .i64 n).wf = true) (hr : RdS ActS.cells 4 w a len c acts ∧ ∀ r ∈ acts, r.Wf) (hs : (Lit.int .i64 stop).wf = true) :
    Calls Try.prog 5 #[.int .i64 n, .slice a len c, .int .i64 stop] w fun e w' => e = .returned (.bool true) ∧ Below w.heap.size w w' := by
  by_cases h1 : 300 < len
  · exact each_over0 n a len c stop w h1
  by_cases h2 : n < 1
  · exact each_over1 n a len c stop w ⟨by omega, h2⟩
  by_cases h3 : 200 < n
  · exact each_over2 n a len c stop w ⟨by omega, by omega, h3⟩
  obtain ⟨x, rfl⟩ := Int.eq_ofNat_of_zero_le (show 0 ≤ n by omega)
  exact each_in x a len c stop w acts hr.1 hr.2 (by omega) (by omega) (by omega) (wf_i64_bd hs)
end Go.Proofs.Ythikpggndjfeaaa
