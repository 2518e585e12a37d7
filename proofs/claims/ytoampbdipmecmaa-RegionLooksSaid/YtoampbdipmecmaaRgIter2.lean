/- region: Pieces: the iterator's contract where the round is told that it is handed a piece. -/
import Derived.Test.YtoampbdipmecmaaRgIter
namespace Go.Proofs.Ytoampbdipmecmaa
open Go.RowKit Go.Shelf Go.Proofs
attribute [local go_sem] Oper.semAt_some
set_option maxRecDepth 100000 in
set_option linter.unusedSimpArgs false in
set_option linter.unusedVariables false in
set_option maxHeartbeats 2000000 in
theorem pieces1_of (F : Fence) (n : Nat) (hf : F.fn 32) (hro : F.round = none) (hn : 1 ≤ n) (l b n₀ len cap : Nat) (a : Option Addr) (L : List Rg) (lo hi : Int) (hlen : len ≤ 1000) (hb : b + 2 < n₀) (ha : ∀ x, a = some x → 0 < len → b ≤ x.block ∧ x.block < n₀) (J Jx : List Rg → World → Prop)
    (hJ : ∀ s W o, J s W → J s (W.alloc o))
    (hY : ∀ pre x W, J pre W → pre.length < (piecesL L lo hi).length → x ∈ piecesL L lo hi → YieldAt F (n - 1) Try.prog l #[x.val] W fun e W' =>
      (e = .returned (.bool true) ∧ J (pre ++ [x]) W' ∧ Amid b n₀ W W') ∨ (e = .returned (.bool false) ∧ Jx (pre ++ [x]) W'))
    (W : World) (hP : PcAt W b (.slice a len cap) lo hi) (hR : RdS Rg.cells 3 W a len cap L) (hWn : n₀ ≤ W.heap.size) (h0 : J [] W) :
    CallsIn F n Try.prog 32 #[.func (.yield l) #[] #[], .pointer (some ⟨b, 0, none⟩), .pointer (some ⟨b + 1, 0, none⟩), .pointer (some ⟨b + 2, 0, none⟩)] W fun e W' => (∃ v, e = .returned v) ∧
      ((∃ ys, ys = piecesL L lo hi ∧ J ys W') ∨ (∃ pre, pre <+: piecesL L lo hi ∧ Jx pre W')) := by
  have HP := Lib.hid hP
  have HR := Lib.hid hR
  have q0 := hP.l.cell
  clear hP hR
  refine callsIn_of_wp Try.func32 rfl hf ?_ hro
  simp only [Try.ntmps32, List.size_toArray, List.length_cons, List.length_nil, Nat.reduceAdd, Nat.reduceSub, Array.replicate_succ, Array.replicate_zero, List.push_toArray, List.append_toArray, List.nil_append, List.cons_append]
  gi_wp2
  clear q0
  gi_loopw [10] (fun i wr => ∃ k : Nat, k ≤ len ∧ i = .int .i64 k ∧ Hid (J (piecesL (L.take k) lo hi) wr ∧ Amid b n₀ W wr)) (fun i _ => len - (intOf i).toNat)
  case atStart => exact ⟨0, Nat.zero_le _, rfl, h0, Amid.refl _ _ _⟩
  case round =>
    obtain ⟨k, hk, rfl, hh⟩ := hrel
    obtain ⟨h1, h2⟩ := hh.out
    have HJ := Lib.hid h1
    have B := Lib.hid h2
    have P2 := HP.out.mid h2 hb
    have c1 := P2.lo.cell
    have c2 := P2.hi.cell
    have hsz := Nat.le_trans hWn h2.size
    have hl1 := P2.l.lt
    have hl2 := P2.lo.lt
    have hl3 := P2.hi.lt
    clear hh h1 h2 P2
    by_cases hlt : k < len
    · have hl := HR.out.len
      obtain ⟨r, hr⟩ : ∃ r, L[k]? = some r := ⟨L[k], List.getElem?_eq_getElem (by omega)⟩
      obtain ⟨g, o, he, z0, z1, z2⟩ := (HR.out.midAt B.out ha).three k r hr
      subst he
      have HS := Lib.hid (pieces_snoc hr lo hi)
      obtain ⟨rlo, rhi, rp⟩ := r
      obtain ⟨XL, hXL⟩ : ∃ x, (if rlo < lo then lo else rlo) = x := ⟨_, rfl⟩
      obtain ⟨XH, hXH⟩ : ∃ x, (if hi < rhi then hi else rhi) = x := ⟨_, rfl⟩
      have hc : clipR lo hi ⟨rlo, rhi, rp⟩ = ⟨XL, XH, rp⟩ := by
        unfold clipR
        rw [← hXL, ← hXH]
        refine Rg.ext' ?_ ?_ rfl
        · show max rlo lo = if rlo < lo then lo else rlo
          by_cases h : rlo < lo
          · rw [if_pos h]; omega
          · rw [if_neg h]; omega
        · show min rhi hi = if hi < rhi then hi else rhi
          by_cases h : hi < rhi
          · rw [if_pos h]; omega
          · rw [if_neg h]; omega
      have HC := Lib.hid hc
      clear hr hl hc
      by_cases hx : XL < XH
      · have HO : Hid (piecesL [⟨rlo, rhi, rp⟩] lo hi = [⟨XL, XH, rp⟩]) := by
          show _ = _
          unfold piecesL
          rw [List.map_cons, List.map_nil, HC.out, List.filter_cons_of_pos (by simpa using hx)]
          rfl
        have hJ5 := hJ _ _ (.cells #[.int .i64 XL, .int .i64 XH, .int .i64 rp] 29) (hJ _ _ (.cells #[.int .i64 rlo, .int .i64 rhi, .int .i64 rp] 29) HJ.out)
        obtain ⟨fn, tmps, assign, body, hy, hR⟩ := hY _ ⟨XL, XH, rp⟩ _ hJ5 (by rw [HS.out.2, HO.out]; simp) (by rw [HS.out.2, HO.out]; simp)
        have HR2 := Lib.hid hR
        have B5 : Hid (Amid b n₀ W ((wr.alloc (.cells #[.int .i64 rlo, .int .i64 rhi, .int .i64 rp] 29)).alloc (.cells #[.int .i64 XL, .int .i64 XH, .int .i64 rp] 29))) := (B.out.alloc hsz _).alloc (by simp; omega) _
        clear hJ5 hR
        dsimp only [Rg.val] at hy
        gi_wp2
        refine HR2.out.mono ?_
        rintro e W3 (⟨rfl, hJ3, hk3⟩ | ⟨rfl, hJx3⟩)
        · have HJ3 := Lib.hid hJ3
          have HK3 := Lib.hid hk3
          clear hJ3 hk3
          gi_wp2
          go_roundw
          case rel => exact ⟨k + 1, by omega, by go_num, by rw [HS.out.1, HO.out]; exact HJ3.out, B5.out.trans HK3.out⟩
          case measure => simp [intOf] <;> omega
        · have HJ3 := Lib.hid hJx3
          clear hJx3
          gi_wp2
          refine bodyPost_ret (results_none rfl _ _ _) rfl ?_
          exact ⟨⟨_, rfl⟩, .inr ⟨_, by rw [HS.out.2, HO.out, ← List.append_assoc]; exact List.prefix_append _ _, HJ3.out⟩⟩
      · have HO : Hid (piecesL [⟨rlo, rhi, rp⟩] lo hi = []) := by
          show _ = _
          unfold piecesL
          rw [List.map_cons, List.map_nil, HC.out, List.filter_cons_of_neg (by simpa using hx)]
          rfl
        have hJ5 := hJ _ _ (.cells #[.int .i64 XL, .int .i64 XH, .int .i64 rp] 29) (hJ _ _ (.cells #[.int .i64 rlo, .int .i64 rhi, .int .i64 rp] 29) HJ.out)
        have HJ5 := Lib.hid hJ5
        have B5 : Hid (Amid b n₀ W ((wr.alloc (.cells #[.int .i64 rlo, .int .i64 rhi, .int .i64 rp] 29)).alloc (.cells #[.int .i64 XL, .int .i64 XH, .int .i64 rp] 29))) := (B.out.alloc hsz _).alloc (by simp; omega) _
        clear hJ5
        gi_wp2
        refine ⟨fun _ h => (by cases h), ?_⟩
        gi_wp2
        go_roundw
        case rel => exact ⟨k + 1, by omega, by go_num, by rw [HS.out.1, HO.out, List.append_nil]; exact HJ5.out, B5.out⟩
        case measure => simp [intOf] <;> omega
    · obtain rfl : k = len := by omega
      have hl := HR.out.len
      have e : L.take k = L := List.take_of_length_le (by omega)
      rw [e] at HJ
      clear hl e
      gi_wp2
      go_end0
      exact ⟨⟨_, rfl⟩, .inl ⟨_, rfl, HJ.out⟩⟩
/-- A piece of these regions. -/
abbrev Pc (L : List Rg) (lo hi : Int) : Type := {x : Rg // x ∈ piecesL L lo hi}
set_option maxRecDepth 100000 in
theorem pieces_of (F : Fence) (n : Nat) (hf : F.fn 32) (hro : F.round = none) (hn : 1 ≤ n) (b n₀ : Nat) (v : Value) (L : List Rg) (lo hi : Int) (w : World) (hl : L.length ≤ 1000) (hP : PcAt w b v lo hi) (hO : OwnsS Rg.cells 3 29 w b v L) (hb : b + 2 < n₀) (hn₀ : n₀ ≤ w.heap.size) (hv : ∀ g, room v = some g → g < n₀) :
    SeqStopsK F n Try.prog 32 #[.pointer (some ⟨b, 0, none⟩), .pointer (some ⟨b + 1, 0, none⟩), .pointer (some ⟨b + 2, 0, none⟩)] (fun x : Pc L lo hi => #[x.1.val]) (Amid b n₀) (fun ys => ys.map (·.1) = piecesL L lo hi) (fun pre => pre.map (·.1) <+: piecesL L lo hi) (piecesL L lo hi).length w := fun l J Jx W hW hJ _ hY h0 => by
  obtain ⟨a, c, rfl⟩ := hO.shape
  have hR := hO.rd rgC
  have hWn := hW.mono hn₀
  refine (pieces1_of F n hf hro hn l b n₀ L.length c a L lo hi hl hb (fun x hx h => have e := (?_ : room _ = some x.block); ⟨(hO.at_base _ e).1, hv _ e⟩)
    (fun ys W => ∃ zs : List (Pc L lo hi), zs.map (·.1) = ys ∧ J zs W) (fun ys W => ∃ zs : List (Pc L lo hi), zs.map (·.1) = ys ∧ Jx zs W)
    (fun s W o hs => ?_) (fun pre x W hs hlen hx => ?_) W (hP.below hWn hb) (hR.belowAt hWn (fun x hx h => hv _ ?_)) (Nat.le_trans hn₀ hW.size) ⟨[], rfl, h0⟩).mono ?_
  · rw [hx]; exact if_neg (by have := hR.cap; omega)
  · obtain ⟨zs, e, hz⟩ := hs
    exact ⟨zs, e, hJ zs W _ none hz (World.grownBy_alloc W o none) (fun r e => by cases e)⟩
  · obtain ⟨zs, e, hz⟩ := hs
    obtain ⟨fn, tmps, assign, body, hy, hr⟩ := hY zs ⟨x, hx⟩ W hz (by rw [← e, List.length_map] at hlen; exact hlen)
    refine ⟨fn, tmps, assign, body, hy, hr.mono ?_⟩
    rintro en W' (⟨h1, h2, h3⟩ | ⟨h1, h2⟩)
    · exact .inl ⟨h1, ⟨zs ++ [⟨x, hx⟩], by rw [List.map_append, e]; rfl, h2⟩, h3⟩
    · exact .inr ⟨h1, ⟨zs ++ [⟨x, hx⟩], by rw [List.map_append, e]; rfl, h2⟩⟩
  · rw [hx]; exact if_neg (by have := hR.cap; omega)
  · rintro en W' ⟨h1, h2⟩
    refine ⟨h1, ?_⟩
    rcases h2 with ⟨ys, h3, zs, h4, h5⟩ | ⟨pre, h3, zs, h4, h5⟩
    · exact .inl ⟨zs, h4.trans h3, h5⟩
    · exact .inr ⟨zs, by show zs.map (·.1) <+: _; rw [h4]; exact h3, h5⟩
end Go.Proofs.Ytoampbdipmecmaa
