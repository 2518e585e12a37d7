/- Bytes as a value and as a string: words for regions that draw their order. -/
import Derived.Test.YtfoabnoolmeoiaaU8
import Derived.Test.YtfoabnoolmeoiaaRegion
import Derived.Test.YtfoabnoolmeoiaaFree
import Derived.Test.YtfoabnoolmeoiaaBytesLaw
namespace Go.Proofs.Ytfoabnoolmeoiaa
open Go.RowKit
set_option maxRecDepth 100000 in
theorem s8 : Try.prog.underlying 5 = some (.int .u8) := Try.underlying5
set_option maxRecDepth 100000 in
theorem su : Try.prog.underlying 9 = some .string := Try.underlying9
theorem str_inj {a b : List Int} (ha : Bytes a) (hb : Bytes b) (h : (strOfNums a).toList = (strOfNums b).toList) : a = b := by
  rw [ByteArray.toList_eq, ByteArray.toList_eq, strOfNums_data, strOfNums_data] at h
  have hl : a.length = b.length := by simpa using congrArg List.length h
  apply List.ext_getElem hl
  intro i h1 h2
  have e := congrArg (fun l => l[i]?) h
  simp only [List.getElem?_map, List.getElem?_eq_getElem h1, List.getElem?_eq_getElem h2, Option.map_some, Option.some.injEq] at e
  obtain ⟨a1, a2⟩ := ha _ (List.getElem_mem h1)
  obtain ⟨b1, b2⟩ := hb _ (List.getElem_mem h2)
  have e2 := congrArg UInt8.toNat e
  simp only [UInt8.toNat_ofNat'] at e2
  omega
theorem RdAt.keptD {k : IntKind} {w w' : World} {a : Option Addr} {n c : Nat} {l : List Int} (h : RdAt k w a n c l) (hk : Kept w.drew w') : RdAt k w' a n c l :=
  RdAt.below (w := w.drew) ⟨h.len, h.cap, h.max, h.cell, h.wf, h.void⟩ hk
/-- A slice that reads as these bytes. -/
def isBytes (l : List Int) (v : Value) (w : World) : Prop := ∃ a n c, v = .slice a n c ∧ RdAt .u8 w a n c l
theorem isBytes_stays (l : List Int) : Stays Kept (isBytes l) := by
  rintro v w w' ⟨a, n, c, rfl, h⟩ hk
  exact ⟨a, n, c, rfl, h.below hk⟩
theorem Owns.isBytes {e : TypeId} {w : World} {base : Nat} {v : Value} {l : List Int} (h : Owns .u8 e w base v l) : isBytes l v w := by
  obtain ⟨a, c, rfl⟩ := h.shape
  exact ⟨_, _, _, rfl, h.rd⟩
theorem RdAt.isBytes {w : World} {a : Option Addr} {n c : Nat} {l : List Int} (h : RdAt .u8 w a n c l) : isBytes l (.slice a n c) w := ⟨_, _, _, rfl, h⟩
end Go.Proofs.Ytfoabnoolmeoiaa
