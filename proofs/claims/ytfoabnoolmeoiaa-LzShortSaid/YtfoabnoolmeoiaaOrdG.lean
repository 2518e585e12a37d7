/- Regions that draw their order, whatever the operations' common way (Kd) is. No program in sight. -/
import Derived.Test.YtfoabnoolmeoiaaKill
namespace Go.Proofs.Ytfoabnoolmeoiaa
open Go.RowKit
/-- The same but for what is drawn. -/
structure SameW (w w' : World) : Prop where
  os : w'.os = w.os
  tape : w'.tape = w.tape
  output : w'.output = w.output
  heap : w'.heap = w.heap
theorem SameW.refl (w : World) : SameW w w := ⟨rfl, rfl, rfl, rfl⟩
theorem SameW.below {w w' : World} (h : SameW w w') (B : Nat) : Below B w w' := ⟨h.os, h.tape, h.output, by rw [h.heap]; exact Nat.le_refl _, fun j _ => by rw [h.heap]⟩
section
variable {P : Program} {D : List Tmp} {ds : List Deferred} {l : List Oper} {t0 : Array Value} (Kd : World → World → Prop)
def pickGd : List (Nat × (World → World → Prop)) → Nat → World → World → Prop
  | [], _ => Kd
  | (s, G) :: r, j => if j = s then G else pickGd r j
def AllKeepId : List (Nat × (World → Prop)) → Prop
  | [] => True
  | (_, p) :: r => StaysI Kd p ∧ AllKeepId r
variable {Kd}
theorem keepI_getd : ∀ {L : List (Nat × (World → Prop))}, AllKeepId Kd L → ∀ i w w', pickI L i w → Kd w w' → pickI L i w'
  | [], _, _, _, _, _, _ => trivial
  | (k, p) :: r, h, i, w, w', hp, hg => by
    unfold pickI at hp ⊢
    by_cases e : i = k
    · rw [if_pos e] at hp ⊢; exact h.1 w w' hp hg
    · rw [if_neg e] at hp ⊢; exact keepI_getd (L := r) h.2 i w w' hp hg
theorem bearI_getd {f : Nat} {L : List (Nat × (World → Prop))} (hk : AllKeepId Kd L) : ∀ {S : List (Nat × (World → World → Prop))}, BearAllI l f L S → ∀ i j w w', j ≠ i → waits l f j i = false → pickI L i w → pickGd Kd S j w w' → pickI L i w'
  | [], _, i, _, w, w', _, _, hp, hg => keepI_getd hk i w w' hp hg
  | (s, G) :: r, h, i, j, w, w', hne, hw, hp, hg => by
    unfold pickGd at hg
    by_cases e : j = s
    · rw [if_pos e] at hg
      subst e
      exact AllBearI.get h.1 i w w' hne hw hp hg
    · rw [if_neg e] at hg
      exact bearI_getd hk (S := r) h.2 i j w w' hne hw hp hg
theorem bear3_getd {KL : List (Nat × Nat)} {f : Nat} {L : List (Value → World → Prop)} (hk : AllStay Kd L) : ∀ {S : List (Nat × (World → World → Prop))}, BearAll3 KL l f L S → ∀ i j v w w', j ≠ i → waits l f i j = false → kills KL j i = false → pickF L i v w → pickGd Kd S j w w' → pickF L i v w'
  | [], _, i, _, v, w, w', _, _, _, hp, hg => pick_stays hk i v w w' hp hg
  | (s, G) :: r, h, i, j, v, w, w', hne, hw, hkl, hp, hg => by
    unfold pickGd at hg
    by_cases e : j = s
    · rw [if_pos e] at hg
      subst e
      exact AllBear3.get h.1 i v w w' (by rw [Nat.zero_add]; exact hne) (by rw [Nat.zero_add]; exact hw) (by rw [Nat.zero_add]; exact hkl) hp hg
    · rw [if_neg e] at hg
      exact bear3_getd hk (S := r) h.2 i j v w w' hne hw hkl hp hg
theorem reg_gen (Kd : World → World → Prop) {Q : Exit → Act → World → Prop} {id : Nat} {w : World} (KL : List (Nat × Nat)) (L : List (Value → World → Prop)) (S : List (Nat × (World → World → Prop))) (IL : List (Nat × (World → Prop))) (D : List Tmp) (Bs : List (List Nat)) (Ns : List Nat) (f : Nat) (hm : P.follows .mixedOrders = true)
    (hkok : killOk l f KL Bs = true) (hLk : AllStay Kd L) (hLS : BearAll3 KL l f L S) (hIk : AllKeepId Kd IL) (hIS : BearAllI l f IL S) (h0 : HoldI w.drew IL)
    (m : Nat) (hsz : t0.size = m) (hok : slotsOk2 l D Bs m = true) (hap : slotsApart D l.length = true) (hB : Bs.length = l.length) (hN : List.range l.length = Ns) (n : Nat) (hn : l.length = n) (ho : Obls2 P (pickGd Kd S) (pickI IL) (pickF L) D ds l t0 l 0 Bs)
    (hQ : ∀ w', pickI IL n w' → Given (fun i v w => killed KL i = false → pickF L i v w) D w' t0 Ns fun t => Q .normal ⟨t, ds⟩ w') : (Code.region id l.toArray true).wp P Q ⟨t0, ds⟩ w := by
  subst hsz
  subst hN
  subst hn
  refine wp_region_any hm (reg_mid3 KL f (fun i j v w w' _ _ hne hw hkl hp hg => bear3_getd hLk hLS i j v w w' hne hw hkl hp hg) (killOk_get hkok) (fun i j w w' _ _ hne hw hp hg => bearI_getd hIk hIS i j w w' hne hw hp hg) hok hap hB ho hQ _ (fun _ => undef) _ _ _ ⟨by simp, rfl, fun j hj hl => ?_, fun j hj _ => hold_get h0 j, hold_get h0 _, fun d _ => rfl, fun j oj hoj hl => ?_⟩ (by simp))
  · simp [Array.getD, hj] at hl
  · simp [Array.getD, (List.getElem?_eq_some_iff.1 hoj).1] at hl
end
end Go.Proofs.Ytfoabnoolmeoiaa
