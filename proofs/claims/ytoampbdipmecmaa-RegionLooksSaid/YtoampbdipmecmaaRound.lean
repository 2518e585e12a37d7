/- A region that draws, within a round of a range over a function: as outside, where no operation defers. -/
import Derived.Test.YtoampbdipmecmaaProg
import Derived.Sort.QuietIn
import Derived.RangeFuncCalls
import Derived.BigQuiet
namespace Go.Proofs.Ytoampbdipmecmaa
section
variable {F : Fence} {n l : Nat} {P : Program} {md : Region.Mode} {ops : Array Oper} {Q : Exit → Act → World → Prop}
theorem operIn_round {o : Oper} {a : Act} {w : World} {K : Act → World → Prop} (hd : ∀ c, o.op ≠ .defer c) (h : o.wpIn F n P a w K Q) : o.wpIn (F.inRound l) n P a w K Q := by
  unfold Oper.wpIn at *
  refine ⟨h.1, ?_⟩
  have h2 := h.2
  rw [Oper.semAt_eq _ _ _ hd] at h2 ⊢
  exact h2
theorem anyIn_round (hd : ∀ (i : Nat) (o : Oper), ops[i]? = some o → ∀ c, o.op ≠ .defer c) : ∀ (fuel : Nat) (listed : Array Bool) (a : Act) (w : World), wpAnyIn F n P md ops Q fuel listed a w → wpAnyIn (F.inRound l) n P md ops Q fuel listed a w
  | 0, _, _, _, h => h
  | fuel + 1, listed, a, w, h => by
    refine ⟨h.1, fun i hi => ?_⟩
    have h2 := h.2 i hi
    unfold wpOpIn at h2 ⊢
    cases ho : ops[i]? with
    | none =>
      rw [ho] at h2
      exact anyIn_round hd fuel _ _ _ h2
    | some o =>
      rw [ho] at h2
      simp only at h2 ⊢
      split at h2
      · rename_i hw
        rw [if_pos hw]
        exact operIn_round (hd i o ho) (Oper.wpIn_mono (fun a w hk => anyIn_round hd fuel _ a w hk) h2)
      · rename_i hw
        rw [if_neg hw]
        exact ⟨h2.1, anyIn_round hd fuel _ _ _ h2.2⟩
def noDefer (L : List Oper) : Bool := L.all fun o => match o.op with | .defer _ => false | _ => true
theorem noDefer_at {L : List Oper} (h : noDefer L = true) : ∀ (i : Nat) (o : Oper), L.toArray[i]? = some o → ∀ c, o.op ≠ .defer c := fun i o ho c e => by
  have := List.all_eq_true.1 h o (List.mem_of_getElem? (by simpa using ho))
  rw [e] at this
  cases this
/-- A quiet region that draws, within a round. -/
theorem wpIn_round_quiet_lit {id : Nat} {a : Act} {w : World} {L : List Oper} (hd : noDefer L = true) (hro : F.round = none) (hm : P.follows .mixedOrders = true) (hB : Region.lexB .any L.toArray = true)
    (h : wpQuietIn F n P L.toArray (fun w' => ∃ n, w' = w.drewN n) (fun a' => ∀ w', (∃ n, w' = w.drewN n) → Q .normal a' w') L a) : (Code.region id L.toArray true).wpIn (F.inRound l) n P Q a w := by
  simp only [Region.lexB, Bool.and_eq_true] at hB
  refine wpIn_region_any hm (anyIn_round (noDefer_at hd) _ _ _ _ (wpAnyIn_of_quiet (C := fun w' => ∃ n, w' = w.drewN n) (Q := fun a' => ∀ w', (∃ n, w' = w.drewN n) → Q .normal a' w') hro (fun _ w' hw' h => h w' hw') _ _ _ _ ⟨1, rfl⟩ ?_))
  have := wpAnyQIn_lex (F := F) (n := n) (C := fun w' => ∃ n, w' = w.drewN n) (md := .any) hB.1 L 0 (Array.replicate L.toArray.size false) a (by simp) (by simpa using hB.2) h
  simpa using this
end
end Go.Proofs.Ytoampbdipmecmaa
