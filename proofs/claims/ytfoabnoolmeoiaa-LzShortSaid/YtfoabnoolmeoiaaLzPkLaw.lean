/- What Pack lays, and that it is unpacked so. No program in sight. -/
import Derived.Test.YtfoabnoolmeoiaaLzJoinLaw
import Derived.Test.YtfoabnoolmeoiaaBackVar
namespace Go.Proofs.Ytfoabnoolmeoiaa
/-- A row of tokens that unpacks to o. -/
def Unp (M : Int) (r o : List Int) : Prop := (toks M r.length r [] 0 0).e = 0 ∧ (toks M r.length r [] 0 0).o = o
theorem Unp.nil (M : Int) : Unp M [] [] := ⟨rfl, rfl⟩
/-- One token more. -/
theorem Unp.more {M : Int} {r o t : List Int} (h : Unp M r o) (ht : t.length ≠ 0) (he : tokE t o M = 0) (hx : tokX t = []) : Unp M (r ++ t) (tokO t o) := by
  obtain ⟨h1, h2⟩ := h
  have h3 := toks_app M t r.length (r ++ t).length r [] 0 0 (Nat.le_refl _) (Nat.le_refl _) h1
  have hF : (r ++ t).length = (r.length + t.length - 1) + 1 := by rw [List.length_append]; omega
  unfold Unp
  rw [h3, h2, hF, toks_good ht he, hx, toks_nil]
  exact ⟨rfl, rfl⟩
/-- The two kinds of tokens. -/
def litT' (l : List Int) : List Int := varF 9 (2 * (l.length : Int)) ++ l
def copT (n d : Nat) : List Int := varF 9 (2 * (n : Int) + 1) ++ varF 9 (d : Int)
theorem restV_var {u : Int} (h0 : 0 ≤ u) (h1 : u ≤ 18446744073709551615) (more : List Int) : restV (varF 9 u ++ more) = more := by
  unfold restV
  rw [(readvar_var u h0 h1 more _ rfl).2.1]
  simp
theorem lit_unp {M : Int} {r o l : List Int} (h : Unp M r o) (hl : l.length ≠ 0) (hm : (o.length : Int) + l.length ≤ M) (hM : M ≤ 1000000000) : Unp M (r ++ litT' l) (o ++ l) := by
  obtain ⟨q1, q2, q3⟩ := readvar_var (2 * (l.length : Int)) (by omega) (by omega) l _ rfl
  have q4 := restV_var (u := 2 * (l.length : Int)) (by omega) (by omega) l
  have hv : (2 * (l.length : Int)) / 2 = l.length := by omega
  have hv2 : (2 * (l.length : Int)) % 2 = 0 := by omega
  have hO : tokO (litT' l) o = o ++ l := by
    unfold tokO litT'
    rw [q1, hv, hv2, q4, if_neg (by decide)]
    simp
  rw [← hO]
  refine h.more (by unfold litT'; rw [List.length_append]; omega) ?_ ?_
  · unfold tokE litT'
    rw [q3, q1, hv, hv2, q4, if_neg (by decide), if_neg (by omega), if_neg (by decide), if_neg (by omega), if_neg (by omega)]
  · unfold tokX litT'
    rw [q1, hv, hv2, q4, if_neg (by decide)]
    simp
theorem cop_unp {M : Int} {r o : List Int} {n d : Nat} (h : Unp M r o) (hn : n ≠ 0) (hd : 1 ≤ d) (hd2 : d ≤ o.length) (hm : (o.length : Int) + n ≤ M) (hM : M ≤ 1000000000) : Unp M (r ++ copT n d) (copyN o d n) := by
  have hvl := varF_len 9 (d : Int)
  obtain ⟨q1, q2, q3⟩ := readvar_var (2 * (n : Int) + 1) (by omega) (by omega) (varF 9 (d : Int)) _ rfl
  have q4 := restV_var (u := 2 * (n : Int) + 1) (by omega) (by omega) (varF 9 (d : Int))
  have e0 : varF 9 (d : Int) ++ [] = varF 9 (d : Int) := List.append_nil _
  obtain ⟨p1, p2, p3⟩ := readvar_var (d : Int) (by omega) (by omega) [] _ rfl
  have p4 := restV_var (u := (d : Int)) (by omega) (by omega) []
  rw [e0] at p1 p2 p3 p4
  have hv : (2 * (n : Int) + 1) / 2 = n := by omega
  have hv2 : (2 * (n : Int) + 1) % 2 = 1 := by omega
  have hO : tokO (copT n d) o = copyN o d n := by
    unfold tokO copT
    rw [q1, hv, hv2, q4, p1, if_pos rfl]
    simp
  rw [← hO]
  refine h.more (by unfold copT; rw [List.length_append]; omega) ?_ ?_
  · unfold tokE copT
    rw [q3, q1, hv, hv2, q4, p3, p1, if_neg (by decide), if_neg (by omega), if_pos rfl, if_neg (by decide), if_neg (by omega), if_neg (by omega)]
  · unfold tokX copT
    rw [q1, hv2, q4, p4, if_pos rfl]
/-- How many bytes are the same from two places on. -/
def sameF (b : List Int) (i j : Nat) : Nat → Nat → Nat
  | 0, n => n
  | f + 1, n => if nth b (i + n) = nth b (j + n) then sameF b i j f (n + 1) else n
def sameN (b : List Int) (i j : Nat) : Nat := sameF b i j (b.length - j) 0
theorem sameF_spec (b : List Int) (i j : Nat) : ∀ f n, n ≤ sameF b i j f n ∧ sameF b i j f n ≤ n + f ∧ ∀ t, n ≤ t → t < sameF b i j f n → nth b (i + t) = nth b (j + t)
  | 0, n => ⟨Nat.le_refl _, Nat.le_refl _, fun t h1 h2 => by unfold sameF at h2; omega⟩
  | f + 1, n => by
    unfold sameF
    split
    · rename_i h
      obtain ⟨h1, h2, h3⟩ := sameF_spec b i j f (n + 1)
      refine ⟨by omega, by omega, fun t h4 h5 => ?_⟩
      by_cases ht : t = n
      · rw [ht]; exact h
      · exact h3 t (by omega) h5
    · exact ⟨Nat.le_refl _, by omega, fun t h1 h2 => by omega⟩
theorem sameF_all (b : List Int) (i j : Nat) : ∀ f n, (∀ t, n ≤ t → t < n + f → nth b (i + t) = nth b (j + t)) → sameF b i j f n = n + f
  | 0, n, _ => rfl
  | f + 1, n, h => by
    unfold sameF
    rw [if_pos (h n (Nat.le_refl _) (by omega)), sameF_all b i j f (n + 1) (fun t h1 h2 => h t (by omega) (by omega))]
    omega
theorem sameN_le (b : List Int) (i j : Nat) : sameN b i j ≤ b.length - j := by
  have := (sameF_spec b i j (b.length - j) 0).2.1
  unfold sameN
  omega
theorem sameN_at (b : List Int) (i j t : Nat) (h : t < sameN b i j) : nth b (i + t) = nth b (j + t) := (sameF_spec b i j (b.length - j) 0).2.2 t (Nat.zero_le _) h
theorem nth_take {b : List Int} {n i : Nat} (h : i < n) : nth (b.take n) i = nth b i := by
  unfold nth
  simp only [List.getD, List.getElem?_take, if_pos h]
theorem take_snoc {b : List Int} {n : Nat} (h : n < b.length) : b.take n ++ [nth b n] = b.take (n + 1) := by
  rw [List.take_add_one, List.getElem?_eq_getElem h, nth_eq h]
  rfl
/-- A copy of what is the same there. -/
theorem copy_take {b : List Int} {p j : Nat} (hp : p < j) : ∀ n, j + n ≤ b.length → (∀ t, t < n → nth b (p + t) = nth b (j + t)) → copyN (b.take j) (j - p) n = b.take (j + n)
  | 0, _, _ => rfl
  | n + 1, h, hs => by
    rw [copyN, copy_take hp n (by omega) (fun t ht => hs t (by omega))]
    have hl : (b.take (j + n)).length = j + n := by rw [List.length_take]; omega
    rw [hl, show j + n - (j - p) = p + n by omega, nth_take (by omega), hs n (by omega), take_snoc (by omega)]
    rfl
/-- The bytes by which a copy is found. -/
def keyL (b : List Int) (at' : Nat) : Int := getK ((b.drop at').take 4) 4
/-- The noted places: at is noted. -/
def noteS (b : List Int) (at' : Nat) (S : Int → List Int) : Int → List Int :=
  if at' + 4 ≤ b.length then fun k => if k = keyL b at' then S k ++ [(at' : Int)] else S k else S
/-- So many places are noted, from at on. -/
def notesS (b : List Int) (at' : Nat) : Nat → (Int → List Int) → (Int → List Int)
  | 0, S => S
  | n + 1, S => noteS b (at' + n) (notesS b at' n S)
theorem noteS_mem {b : List Int} {at' : Nat} {S : Int → List Int} {k i : Int} (h : i ∈ noteS b at' S k) : i ∈ S k ∨ i = at' := by
  unfold noteS at h
  split at h
  · dsimp only at h
    split at h
    · rcases List.mem_append.1 h with h | h
      · exact .inl h
      · exact .inr (by simpa using h)
    · exact .inl h
  · exact .inl h
theorem notesS_mem {b : List Int} {at' : Nat} {S : Int → List Int} {k i : Int} : ∀ n, i ∈ notesS b at' n S k → i ∈ S k ∨ ((at' : Int) ≤ i ∧ i < (at' : Int) + n)
  | 0, h => .inl h
  | n + 1, h => by
    rcases noteS_mem h with h | h
    · rcases notesS_mem n h with h | h
      · exact .inl h
      · exact .inr (by omega)
    · exact .inr (by omega)
/-- What the look for a copy has come to, behind some of the places (by their numbers in the list). -/
structure FoundP (b : List Int) (at' : Nat) (L : List Int) (pre : List Nat) (best : Nat) (place : Int) : Prop where
  some : best = 0 ∨ ∃ k ∈ pre, k < L.length ∧ nth L k = place ∧ sameN b place.toNat at' = best
  all : ∀ k ∈ pre, sameN b (nth L k).toNat at' ≤ best
theorem FoundP.nil (b : List Int) (at' : Nat) (L : List Int) : FoundP b at' L [] 0 0 := ⟨.inl rfl, fun k h => by cases h⟩
theorem FoundP.yes {b : List Int} {at' : Nat} {L : List Int} {pre : List Nat} {best : Nat} {place : Int} (h : FoundP b at' L pre best place) (x : Nat) (hx : x < L.length) (hb : best < sameN b (nth L x).toNat at') :
    FoundP b at' L (pre ++ [x]) (sameN b (nth L x).toNat at') (nth L x) :=
  ⟨.inr ⟨x, by simp, hx, rfl, rfl⟩, fun k hk => by
    rcases List.mem_append.1 hk with hk | hk
    · have := h.all k hk; omega
    · obtain rfl := List.mem_singleton.1 hk; exact Nat.le_refl _⟩
theorem FoundP.no {b : List Int} {at' : Nat} {L : List Int} {pre : List Nat} {best : Nat} {place : Int} (h : FoundP b at' L pre best place) (x : Nat) (hb : ¬ best < sameN b (nth L x).toNat at') :
    FoundP b at' L (pre ++ [x]) best place :=
  ⟨h.some.imp id (fun ⟨k, h1, h2⟩ => ⟨k, by simp [h1], h2⟩), fun k hk => by
    rcases List.mem_append.1 hk with hk | hk
    · exact h.all k hk
    · obtain rfl := List.mem_singleton.1 hk; omega⟩
/-- What the look comes to. -/
structure FoundL (b : List Int) (at' : Nat) (L : List Int) (best : Nat) (place : Int) : Prop where
  some : best = 0 ∨ ∃ k, k < L.length ∧ nth L k = place ∧ sameN b place.toNat at' = best
  last : 0 < L.length → sameN b (nth L (L.length - 1)).toNat at' ≤ best
/-- The places from the last one on. -/
def backL (n : Nat) : List Nat := (List.range n).reverse
theorem backL_succ (n : Nat) : backL (n + 1) = n :: backL n := by unfold backL; rw [List.range_succ, List.reverse_append]; rfl
theorem FoundP.done {b : List Int} {at' : Nat} {L : List Int} {best : Nat} {place : Int} (h : FoundP b at' L (backL L.length) best place) : FoundL b at' L best place :=
  ⟨h.some.imp id (fun ⟨k, _, h2⟩ => ⟨k, h2⟩), fun hl => h.all _ (by unfold backL; simp; omega)⟩
theorem FoundP.stop {b : List Int} {at' : Nat} {L : List Int} {best : Nat} {place : Int} {pre : List Nat} {x : Nat} (h : FoundP b at' L pre best place) (hp : pre ++ [x] <+: backL L.length) (hx : 24 < (L.length : Int) - x) : FoundL b at' L best place := by
  refine ⟨h.some.imp id (fun ⟨k, _, h2⟩ => ⟨k, h2⟩), fun hl => h.all _ ?_⟩
  obtain ⟨n, hn⟩ : ∃ n, L.length = n + 1 := ⟨L.length - 1, by omega⟩
  rw [hn] at hp hx ⊢
  rw [backL_succ] at hp
  obtain ⟨t, ht⟩ := hp
  cases pre with
  | nil =>
    simp at ht
    obtain ⟨rfl, _⟩ := ht
    omega
  | cons y pre =>
    simp at ht
    obtain ⟨rfl, _⟩ := ht
    simp
/-- All bytes are the same. -/
def EqB (b : List Int) : Prop := ∀ i, i < b.length → nth b i = nth b 0
/-- What greedy has come to. -/
structure GInv (b : List Int) (at' frm : Nat) (out : List Int) (S : Int → List Int) : Prop where
  le1 : frm ≤ at'
  le2 : at' ≤ b.length
  low : ∀ k, ∀ i ∈ S k, 0 ≤ i ∧ i < (at' : Int)
  unp : ∃ r, out = [1] ++ r ∧ Unp b.length r (b.take frm)
  short : out.length ≤ 1 + 30 * frm
  eq : EqB b → 8 ≤ b.length → (at' = 0 ∧ frm = 0 ∧ out = [1] ∧ S = fun _ => []) ∨ (at' = 1 ∧ frm = 0 ∧ out = [1] ∧ S (keyL b 0) = [0]) ∨ (at' = b.length ∧ frm = b.length ∧ out.length ≤ 16)
/-- literal, copied. -/
def litL (out l : List Int) : List Int := if l.length = 0 then out else out ++ litT' l
def copL (out : List Int) (n d : Nat) : List Int := out ++ copT n d
theorem GInv.start (b : List Int) : GInv b 0 0 [1] (fun _ => []) :=
  ⟨Nat.le_refl _, Nat.zero_le _, fun k i h => (by cases h), ⟨[], rfl, Unp.nil _⟩, by simp, fun _ _ => .inl ⟨rfl, rfl, rfl, rfl⟩⟩
theorem EqB.drop {b : List Int} (h : EqB b) (hl : 8 ≤ b.length) : (b.drop 1).take 4 = (b.drop 0).take 4 := by
  apply List.ext_getElem?
  intro i
  simp only [List.getElem?_take, List.getElem?_drop]
  by_cases hi : i < 4
  · rw [if_pos hi, if_pos hi, List.getElem?_eq_getElem (by omega), List.getElem?_eq_getElem (by omega)]
    have h1 := h (1 + i) (by omega)
    have h2 := h (0 + i) (by omega)
    rw [nth_eq (by omega)] at h1 h2
    rw [h1, h2]
  · rw [if_neg hi, if_neg hi]
theorem GInv.no {b : List Int} {at' frm : Nat} {out : List Int} {S : Int → List Int} (h : GInv b at' frm out S) (ha : at' + 4 ≤ b.length) {best : Nat} {place : Int} (hf : FoundL b at' (S (keyL b at')) best place) (hb : best < 6) :
    GInv b (at' + 1) frm out (noteS b at' S) := by
  refine ⟨by have := h.le1; omega, by omega, fun k i hi => ?_, h.unp, h.short, fun he hl => ?_⟩
  · rcases noteS_mem hi with h1 | h1
    · have := h.low k i h1; omega
    · omega
  · rcases h.eq he hl with ⟨rfl, rfl, h3, h4⟩ | ⟨rfl, rfl, h3, h4⟩ | ⟨h1, _⟩
    · refine .inr (.inl ⟨rfl, rfl, h3, ?_⟩)
      unfold noteS
      rw [if_pos ha, h4]
      exact if_pos rfl
    · exfalso
      have hk : keyL b 1 = keyL b 0 := by unfold keyL; rw [he.drop hl]
      have h5 := hf.last (by rw [hk, h4]; decide)
      rw [hk, h4] at h5
      have h6 : sameN b (nth ([0] : List Int) (([0] : List Int).length - 1)).toNat 1 = b.length - 1 := by
        show sameN b 0 1 = _
        unfold sameN
        rw [sameF_all b 0 1 (b.length - 1) 0 (fun t _ ht => by rw [he (0 + t) (by omega), he (1 + t) (by omega)])]
        omega
      rw [h6] at h5
      omega
    · omega
theorem GInv.yes {b : List Int} {at' frm : Nat} {out : List Int} {S : Int → List Int} (h : GInv b at' frm out S) (hM : b.length ≤ 100000) (ha : at' + 4 ≤ b.length) {best : Nat} {place : Int} (hf : FoundL b at' (S (keyL b at')) best place) (hb : 6 ≤ best) (S' : Int → List Int) (hS' : ∀ k, ∀ i ∈ S' k, i ∈ S k ∨ ((at' : Int) ≤ i ∧ i < (at' : Int) + best)) :
    0 ≤ place ∧ place < (at' : Int) ∧ at' + best ≤ b.length ∧ GInv b (at' + best) (at' + best) (copL (litL out ((b.drop frm).take (at' - frm))) best (at' - place.toNat)) S' := by
  have h1 := h.le1
  have h2 := h.le2
  obtain ⟨k, hk, hkp, hks⟩ : ∃ k, k < (S (keyL b at')).length ∧ nth (S (keyL b at')) k = place ∧ sameN b place.toNat at' = best := by
    rcases hf.some with h3 | h3
    · omega
    · exact h3
  have hpl := h.low (keyL b at') place (by rw [← hkp, nth_eq hk]; exact List.getElem_mem _)
  have hsl := sameN_le b place.toNat at'
  have hbl : at' + best ≤ b.length := by omega
  refine ⟨hpl.1, hpl.2, hbl, Nat.le_refl _, hbl, fun k i hi => ?_, ?_, ?_, fun he hl => ?_⟩
  · rcases hS' k i hi with h3 | h3
    · have := h.low k i h3; omega
    · omega
  · obtain ⟨r, h4, h5⟩ := h.unp
    have hlen : ((b.drop frm).take (at' - frm)).length = at' - frm := by rw [List.length_take, List.length_drop]; omega
    have htk : b.take frm ++ (b.drop frm).take (at' - frm) = b.take at' := by rw [show at' = frm + (at' - frm) by omega, List.take_add]; congr 2; omega
    have htl : (b.take at').length = at' := by rw [List.length_take]; omega
    have hu : ∃ r', litL out ((b.drop frm).take (at' - frm)) = [1] ++ r' ∧ Unp b.length r' (b.take at') := by
      unfold litL
      by_cases hz : at' - frm = 0
      · rw [if_pos (by omega)]
        have : at' = frm := by omega
        exact ⟨r, h4, by rw [this]; exact h5⟩
      · rw [if_neg (by omega)]
        refine ⟨r ++ litT' ((b.drop frm).take (at' - frm)), by rw [h4, List.append_assoc], ?_⟩
        rw [← htk]
        exact lit_unp h5 (by omega) (by rw [hlen, List.length_take]; omega) (by omega)
    obtain ⟨r', h6, h7⟩ := hu
    refine ⟨r' ++ copT best (at' - place.toNat), by unfold copL; rw [h6, List.append_assoc], ?_⟩
    have := cop_unp (n := best) (d := at' - place.toNat) h7 (by omega) (by omega) (by rw [htl]; omega) (by rw [htl]; omega) (by omega)
    rw [copy_take (by omega) best hbl (fun t ht => sameN_at b _ _ t (by omega))] at this
    exact this
  · have hs := h.short
    have v1 := varF_len 9 (2 * (((b.drop frm).take (at' - frm)).length : Int))
    have v2 := varF_len 9 (2 * (best : Int) + 1)
    have v3 := varF_len 9 ((at' - place.toNat : Nat) : Int)
    have hlen : ((b.drop frm).take (at' - frm)).length = at' - frm := by rw [List.length_take, List.length_drop]; omega
    unfold copL litL copT litT'
    split
    · simp only [List.length_append] at *; omega
    · simp only [List.length_append] at *; omega
  · rcases h.eq he hl with ⟨rfl, rfl, h3, h4⟩ | ⟨rfl, rfl, h3, h4⟩ | ⟨h3, _⟩
    · exfalso
      rw [h4] at hk
      simp at hk
    · refine .inr (.inr ?_)
      have hk0 : keyL b 1 = keyL b 0 := by unfold keyL; rw [he.drop hl]
      rw [hk0, h4] at hkp hk
      simp at hk
      subst hk
      have hp0 : place = 0 := hkp.symm
      subst hp0
      have h6 : sameN b 0 1 = b.length - 1 := by
        unfold sameN
        rw [sameF_all b 0 1 (b.length - 1) 0 (fun t _ ht => by rw [he (0 + t) (by omega), he (1 + t) (by omega)])]
        omega
      have h7 : best = b.length - 1 := by rw [← hks]; exact h6
      refine ⟨by omega, by omega, ?_⟩
      subst h3
      have v1 := varF_len 9 (2 * (((b.drop 0).take (1 - 0)).length : Int))
      have hlen : ((b.drop 0).take (1 - 0)).length = 1 := by rw [List.length_take, List.length_drop]; omega
      have v2 : (varF 9 (2 * (best : Int) + 1)).length ≤ 3 := by
        have e : varF 9 (2 * (best : Int) + 1) = varF 2 (2 * (best : Int) + 1) := by
          by_cases c1 : 128 ≤ 2 * (best : Int) + 1
          · rw [varF_step 8 _ c1, varF_step 1 _ c1]
            by_cases c2 : 128 ≤ (2 * (best : Int) + 1) / 128
            · rw [varF_step 7 _ c2, varF_step 0 _ c2, varF_last 7 _ (by omega), varF_last 0 _ (by omega)]
            · rw [varF_last 8 _ (by omega), varF_last 1 _ (by omega)]
          · rw [varF_last 9 _ (by omega), varF_last 2 _ (by omega)]
        rw [e]
        have := (varF_len 2 (2 * (best : Int) + 1)).2
        omega
      have v3 : varF 9 ((1 - (0 : Int).toNat : Nat) : Int) = [1] := varF_last 9 _ (by decide)
      have v4 : varF 9 (2 * (((b.drop 0).take (1 - 0)).length : Int)) = [2] := by rw [hlen]; exact varF_last 9 _ (by decide)
      unfold copL litL copT litT'
      rw [if_neg (by omega), v3, v4]
      simp only [List.length_append, hlen, List.length_cons, List.length_nil]
      omega
    · omega
/-- What greedy ends in. -/
structure GOut (b out : List Int) : Prop where
  unp : ∃ r, out = [1] ++ r ∧ Unp b.length r b
  short : out.length ≤ 11 + 31 * b.length
  eq : EqB b → 8 ≤ b.length → out.length ≤ 16
theorem GInv.done {b : List Int} {at' frm : Nat} {out : List Int} {S : Int → List Int} (h : GInv b at' frm out S) (hM : b.length ≤ 100000) (ha : ¬ at' + 4 ≤ b.length) : GOut b (litL out (b.drop frm)) := by
  have h1 := h.le1
  have h2 := h.le2
  have hl : (b.drop frm).length = b.length - frm := List.length_drop
  refine ⟨?_, ?_, fun he h8 => ?_⟩
  · obtain ⟨r, h4, h5⟩ := h.unp
    unfold litL
    by_cases hz : b.length - frm = 0
    · rw [if_pos (by omega)]
      have : b.take frm = b := List.take_of_length_le (by omega)
      rw [this] at h5
      exact ⟨r, h4, h5⟩
    · rw [if_neg (by omega)]
      refine ⟨r ++ litT' (b.drop frm), by rw [h4, List.append_assoc], ?_⟩
      have := lit_unp (l := b.drop frm) h5 (by omega) (by rw [hl, List.length_take]; omega) (by omega)
      rw [List.take_append_drop] at this
      exact this
  · have hs := h.short
    have v1 := varF_len 9 (2 * ((b.drop frm).length : Int))
    unfold litL litT'
    split
    · omega
    · simp only [List.length_append] at *; omega
  · rcases h.eq he h8 with ⟨rfl, _⟩ | ⟨rfl, _⟩ | ⟨h3, h4, h5⟩
    · omega
    · omega
    · unfold litL
      rw [if_pos (by omega)]
      exact h5
/-- halves. -/
def halfOk (b : List Int) : Prop := b.length / 2 ≠ 0 ∧ b.length % 2 = 0 ∧ b.take (b.length / 2) = b.drop (b.length / 2)
def halfL (b : List Int) : List Int := copL (litL [1] (b.take (b.length / 2))) (b.length / 2) (b.length / 2)
theorem half_unp {b : List Int} (h : halfOk b) (hM : b.length ≤ 100000) : ∃ r, halfL b = [1] ++ r ∧ Unp b.length r b := by
  obtain ⟨h1, h2, h3⟩ := h
  obtain ⟨n, hn⟩ : ∃ n, b.length / 2 = n := ⟨_, rfl⟩
  rw [hn] at h1 h3
  have hl : (b.take n).length = n := by rw [List.length_take]; omega
  unfold halfL copL litL
  rw [hn, if_neg (by omega)]
  refine ⟨litT' (b.take n) ++ copT n n, by simp, ?_⟩
  have u1 := lit_unp (M := b.length) (l := b.take n) (Unp.nil _) (by omega) (by simp; omega) (by omega)
  rw [List.nil_append, List.nil_append] at u1
  have u2 := cop_unp (n := n) (d := n) u1 (by omega) (by omega) (by omega) (by omega) (by omega)
  have e := copy_take (b := b) (p := 0) (j := n) (by omega) n (by omega) (fun t ht => by
    rw [Nat.zero_add]
    have e1 : nth (b.take n) t = nth (b.drop n) t := by rw [h3]
    rw [nth_take ht] at e1
    rw [e1]
    unfold nth
    simp [List.getD, List.getElem?_drop])
  rw [Nat.sub_zero] at e
  have e2 : b.take (n + n) = b := List.take_of_length_le (by omega)
  rw [e, e2] at u2
  exact u2
theorem half_len {b : List Int} (h : halfOk b) (hM : b.length ≤ 4000) : (halfL b).length ≤ b.length / 2 + 8 := by
  obtain ⟨h1, h2, h3⟩ := h
  obtain ⟨n, hn⟩ : ∃ n, b.length / 2 = n := ⟨_, rfl⟩
  rw [hn] at h1 h3
  have hl : (b.take n).length = n := by rw [List.length_take]; omega
  have two : ∀ v : Int, 0 ≤ v → v < 16384 → (varF 9 v).length ≤ 2 := by
    intro v h0 h1
    by_cases c1 : 128 ≤ v
    · rw [varF_step 8 _ c1, varF_last 8 _ (by omega)]
      simp
    · rw [varF_last 9 _ (by omega)]
      simp
  have a1 := two (2 * (n : Int)) (by omega) (by omega)
  have a2 := two (2 * (n : Int) + 1) (by omega) (by omega)
  have a3 := two (n : Int) (by omega) (by omega)
  unfold halfL copL litL copT litT'
  rw [hn, if_neg (by omega), hl]
  simp only [List.length_append, List.length_cons, List.length_nil, hl]
  omega
/-- What Pack gives. -/
structure PkOut (b p : List Int) : Prop where
  e : (allT b.length p).e = 0
  o : (allT b.length p).o = b
  le : p.length ≤ b.length + 1
  eq : EqB b → 8 ≤ b.length → p.length ≤ 16
  half : halfOk b → 32 ≤ b.length → b.length ≤ 4000 → p.length ≤ b.length / 2 + 8
theorem unp_all {b r : List Int} {M : Int} (h : Unp M r b) : (allT M ([1] ++ r)).e = 0 ∧ (allT M ([1] ++ r)).o = b := by
  rw [allT_one]
  exact h
theorem raw_all (b : List Int) : (allT b.length ([0] ++ b)).e = 0 ∧ (allT b.length ([0] ++ b)).o = b := by
  have h : allT b.length ([0] ++ b) = ⟨0, [], ([0] ++ b).drop 1, ((([0] ++ b).length - 1 : Nat) : Int), 0⟩ := by
    unfold allT
    rw [if_neg (by simp), if_pos (show nth ([0] ++ b) 0 = 0 from rfl), if_neg (by simp)]
  rw [h]
  exact ⟨rfl, rfl⟩
/-- The shortest of three: as the code takes it. -/
def lessL (best x : List Int) : List Int := if 0 < x.length ∧ x.length < best.length then x else best
theorem lessL_le (p x : List Int) : (lessL p x).length ≤ p.length := by
  unfold lessL
  split <;> omega
theorem lessL_le2 (p x : List Int) (h : 0 < x.length) : (lessL p x).length ≤ x.length := by
  unfold lessL
  split <;> omega
theorem lessL_or (p x : List Int) : lessL p x = x ∧ 0 < x.length ∨ lessL p x = p := by
  unfold lessL
  split
  · rename_i h; exact .inl ⟨rfl, h.1⟩
  · exact .inr rfl
theorem pk_out {b g h : List Int} (hM : b.length ≤ 100000) (hg : GOut b g) (hh : (halfOk b ∧ h = halfL b) ∨ (¬ halfOk b ∧ h = [])) : PkOut b (lessL (lessL ([0] ++ b) g) h) := by
  have hg0 : 0 < g.length := by obtain ⟨r, e, _⟩ := hg.unp; rw [e]; simp
  have h1 := lessL_le (lessL ([0] ++ b) g) h
  have h2 := lessL_le ([0] ++ b) g
  have h3 := lessL_le2 ([0] ++ b) g hg0
  have key : (allT b.length (lessL (lessL ([0] ++ b) g) h)).e = 0 ∧ (allT b.length (lessL (lessL ([0] ++ b) g) h)).o = b := by
    rcases lessL_or (lessL ([0] ++ b) g) h with ⟨e, hp⟩ | e
    · rw [e]
      rcases hh with ⟨h4, rfl⟩ | ⟨_, rfl⟩
      · obtain ⟨r, e, hu⟩ := half_unp h4 hM
        rw [e]
        exact unp_all hu
      · simp at hp
    · rw [e]
      rcases lessL_or ([0] ++ b) g with ⟨e, _⟩ | e
      · rw [e]
        obtain ⟨r, e, hu⟩ := hg.unp
        rw [e]
        exact unp_all hu
      · rw [e]
        exact raw_all b
  refine ⟨key.1, key.2, ?_, fun he h8 => ?_, fun ho h32 h40 => ?_⟩
  · have : ([0] ++ b).length = b.length + 1 := by simp
    omega
  · have := hg.eq he h8
    omega
  · rcases hh with ⟨h4, rfl⟩ | ⟨h4, _⟩
    · have hp : 0 < (halfL b).length := by unfold halfL copL litL; split <;> simp
      have h5 := lessL_le2 (lessL ([0] ++ b) g) (halfL b) hp
      have := half_len ho h40
      omega
    · exact absurd ho h4
end Go.Proofs.Ytfoabnoolmeoiaa
