/-
  No cell of these rows narrows 'for every input' (looked for: loops, veiled, ifaces, maps, wideKeys, modest, calm, conditions, laid).
  DERIVED. THE GIVEN ROWS OF THIS SEAT. 6 by the template 'for every input the law returns true; each argument reads behind the call as it read before'; 0 by the template 'total and deterministic' (their statements: YtlhpdkapddnbcaaTotals.lean).
  GIVEN WITH THE SEED: the statements are not yours to turn. If you find one false, say at which input.
  Laid BY PROGRAM, IN A SANDBOX (cutbox-rows.mjs): the forced cells as the released guide's own fill.sh prints them over the translation 6e2118635a40fc7e… (all of the seat's roots in one cut). By AI agents, Wed Nov 11 2026. No macro, syntax, notation, axiom, sorry.
-/
import Derived.Test.YtlhpdkapddnbcaaChecked
import GoSem.Claim
import GoSem.ClaimJoined
import GoSem.ClaimMapViews
import Derived.JoinedTies
import Derived.KernelRfl
namespace Go.Proofs.Ytlhpdkapddnbcaa
/- THE CELL 'sum', in the pinned program and in every row, IS THE sha256 OF THE DUMP (.gsa) THAT YtlhpdkapddnbcaaProg.lean LOADS. Nothing in Lean hashes anything: it is a label: what it is worth is what the hold of that sum in a sandbox is worth. -/
noncomputable def Try.pinned : Pinned := { name := "ytlhpdkapddnbcaa", sum := "6e2118635a40fc7ecdce57aada90183a697eaa96501faa779aff3c5bc440bf68", checked := Try.checked }
namespace Rows
def none {H : Type} : Left H := { results := [], args := [] }

/-- 'almanaclaw8.RingRooms': WHATEVER THE INPUT: true; the input reads as it did. -/
def ringRoomsSpec : ChangeSpec := { name := "ringRooms", fn := fun _ => fun
  | [d1, d2, d3] => { results := [.lit (.bool true)], args := [d1, d2, d3] }
  | _ => none }
def ringRoomsRow : OpenClaim := { program := "ytlhpdkapddnbcaa", sum := "6e2118635a40fc7ecdce57aada90183a697eaa96501faa779aff3c5bc440bf68", func := "almanac/almanaclaw8.RingRooms", spec := "ringRooms", inPlace := ["internal/reflectlite.TypeOf"], unfollowed := true, recurses := true, plainKeys := false, apart := false }
def RingRoomsSaid : Prop := ringRoomsRow.holds Try.pinned (OpenSpec.ofChange ringRoomsSpec)

/-- ITS FALSE NEIGHBOUR: 'it returns false'. Refute it at one input. -/
def ringRoomsWrong : ChangeSpec := { name := "ringRooms", fn := fun _ => fun
  | [d1, d2, d3] => { results := [.lit (.bool false)], args := [d1, d2, d3] }
  | _ => none }
def RingRoomsWrongFalsely : Prop := ringRoomsRow.holds Try.pinned (OpenSpec.ofChange ringRoomsWrong)

/-- 'almanaclaw8.RingEach': WHATEVER THE INPUT: true; the input reads as it did. -/
def ringEachSpec : ChangeSpec := { name := "ringEach", fn := fun _ => fun
  | [d1, d2, d3, d4, d5, d6] => { results := [.lit (.bool true)], args := [d1, d2, d3, d4, d5, d6] }
  | _ => none }
def ringEachRow : OpenClaim := { program := "ytlhpdkapddnbcaa", sum := "6e2118635a40fc7ecdce57aada90183a697eaa96501faa779aff3c5bc440bf68", func := "almanac/almanaclaw8.RingEach", spec := "ringEach", inPlace := ["internal/reflectlite.TypeOf"], unfollowed := true, recurses := true, plainKeys := false, apart := false }
def RingEachSaid : Prop := ringEachRow.holds Try.pinned (OpenSpec.ofChange ringEachSpec)

/-- ITS FALSE NEIGHBOUR: 'it returns false'. Refute it at one input. -/
def ringEachWrong : ChangeSpec := { name := "ringEach", fn := fun _ => fun
  | [d1, d2, d3, d4, d5, d6] => { results := [.lit (.bool false)], args := [d1, d2, d3, d4, d5, d6] }
  | _ => none }
def RingEachWrongFalsely : Prop := ringEachRow.holds Try.pinned (OpenSpec.ofChange ringEachWrong)

/-- 'almanaclaw8.RingAny': WHATEVER THE INPUT: true; the input reads as it did. -/
def ringAnySpec : ChangeSpec := { name := "ringAny", fn := fun _ => fun
  | [d1, d2, d3] => { results := [.lit (.bool true)], args := [d1, d2, d3] }
  | _ => none }
def ringAnyRow : OpenClaim := { program := "ytlhpdkapddnbcaa", sum := "6e2118635a40fc7ecdce57aada90183a697eaa96501faa779aff3c5bc440bf68", func := "almanac/almanaclaw8.RingAny", spec := "ringAny", inPlace := ["internal/reflectlite.TypeOf"], unfollowed := true, recurses := true, plainKeys := false, apart := false }
def RingAnySaid : Prop := ringAnyRow.holds Try.pinned (OpenSpec.ofChange ringAnySpec)

/-- ITS FALSE NEIGHBOUR: 'it returns false'. Refute it at one input. -/
def ringAnyWrong : ChangeSpec := { name := "ringAny", fn := fun _ => fun
  | [d1, d2, d3] => { results := [.lit (.bool false)], args := [d1, d2, d3] }
  | _ => none }
def RingAnyWrongFalsely : Prop := ringAnyRow.holds Try.pinned (OpenSpec.ofChange ringAnyWrong)

/-- 'almanaclaw8.RingPlays': WHATEVER THE INPUT: true; the input reads as it did. -/
def ringPlaysSpec : ChangeSpec := { name := "ringPlays", fn := fun _ => fun
  | [d1, d2, d3] => { results := [.lit (.bool true)], args := [d1, d2, d3] }
  | _ => none }
def ringPlaysRow : OpenClaim := { program := "ytlhpdkapddnbcaa", sum := "6e2118635a40fc7ecdce57aada90183a697eaa96501faa779aff3c5bc440bf68", func := "almanac/almanaclaw8.RingPlays", spec := "ringPlays", inPlace := ["internal/reflectlite.TypeOf"], unfollowed := true, recurses := true, plainKeys := false, apart := false }
def RingPlaysSaid : Prop := ringPlaysRow.holds Try.pinned (OpenSpec.ofChange ringPlaysSpec)

/-- ITS FALSE NEIGHBOUR: 'it returns false'. Refute it at one input. -/
def ringPlaysWrong : ChangeSpec := { name := "ringPlays", fn := fun _ => fun
  | [d1, d2, d3] => { results := [.lit (.bool false)], args := [d1, d2, d3] }
  | _ => none }
def RingPlaysWrongFalsely : Prop := ringPlaysRow.holds Try.pinned (OpenSpec.ofChange ringPlaysWrong)

/-- 'almanaclaw8.RingApart': WHATEVER THE INPUT: true; the input reads as it did. -/
def ringApartSpec : ChangeSpec := { name := "ringApart", fn := fun _ => fun
  | [d1, d2, d3, d4] => { results := [.lit (.bool true)], args := [d1, d2, d3, d4] }
  | _ => none }
def ringApartRow : OpenClaim := { program := "ytlhpdkapddnbcaa", sum := "6e2118635a40fc7ecdce57aada90183a697eaa96501faa779aff3c5bc440bf68", func := "almanac/almanaclaw8.RingApart", spec := "ringApart", inPlace := ["internal/reflectlite.TypeOf"], unfollowed := true, recurses := true, plainKeys := false, apart := false }
def RingApartSaid : Prop := ringApartRow.holds Try.pinned (OpenSpec.ofChange ringApartSpec)

/-- ITS FALSE NEIGHBOUR: 'it returns false'. Refute it at one input. -/
def ringApartWrong : ChangeSpec := { name := "ringApart", fn := fun _ => fun
  | [d1, d2, d3, d4] => { results := [.lit (.bool false)], args := [d1, d2, d3, d4] }
  | _ => none }
def RingApartWrongFalsely : Prop := ringApartRow.holds Try.pinned (OpenSpec.ofChange ringApartWrong)

/-- 'almanaclaw8.RingBursts': WHATEVER THE INPUT: true; the input reads as it did. -/
def ringBurstsSpec : ChangeSpec := { name := "ringBursts", fn := fun _ => fun
  | [d1, d2, d3, d4, d5, d6] => { results := [.lit (.bool true)], args := [d1, d2, d3, d4, d5, d6] }
  | _ => none }
def ringBurstsRow : OpenClaim := { program := "ytlhpdkapddnbcaa", sum := "6e2118635a40fc7ecdce57aada90183a697eaa96501faa779aff3c5bc440bf68", func := "almanac/almanaclaw8.RingBursts", spec := "ringBursts", inPlace := ["internal/reflectlite.TypeOf"], unfollowed := true, recurses := true, plainKeys := false, apart := false }
def RingBurstsSaid : Prop := ringBurstsRow.holds Try.pinned (OpenSpec.ofChange ringBurstsSpec)

/-- ITS FALSE NEIGHBOUR: 'it returns false'. Refute it at one input. -/
def ringBurstsWrong : ChangeSpec := { name := "ringBursts", fn := fun _ => fun
  | [d1, d2, d3, d4, d5, d6] => { results := [.lit (.bool false)], args := [d1, d2, d3, d4, d5, d6] }
  | _ => none }
def RingBurstsWrongFalsely : Prop := ringBurstsRow.holds Try.pinned (OpenSpec.ofChange ringBurstsWrong)

/- THE SECOND FORM. 'bulk': how many values and letters a reading holds, each counted each time it is reached (what is shared counts as often as it is met; a slice's spare places count too). A statement '..UptoSaid' is the law's where the arguments, and the package variables that the reading takes, are together of bulk at most 1048576: NARROWER than '..Said'. Prove '..Said' where nothing that the law and all that it calls make is longer than what came in: it says more and counts as full. Else prove '..UptoSaid'. A law counts once. -/
mutual
def uptoBulk {H : Type} : DataW H → Nat
  | .lit (.string bytes) => bytes.length + 1
  | .lit _ => 1
  | .nil => 1
  | .ptr d => uptoBulk d + 1
  | .slice elems spare => uptoBulkAll elems + uptoBulkAll spare + 1
  | .agg parts => uptoBulkAll parts + 1
  | .iface _ d => uptoBulk d + 1
  | .map entries => uptoBulkEntries entries + 1
  | .held _ => 1
def uptoBulkAll {H : Type} : List (DataW H) → Nat
  | [] => 0
  | d :: r => uptoBulk d + uptoBulkAll r
def uptoBulkEntries {H : Type} : List (Lit × DataW H) → Nat
  | [] => 0
  | x :: r => uptoBulkEntry x + uptoBulkEntries r
def uptoBulkEntry {H : Type} : Lit × DataW H → Nat
  | (.string bytes, d) => bytes.length + uptoBulk d + 1
  | (_, d) => uptoBulk d + 1
 end
def uptoSmall : (H : Type) → List (DataW H) → Bool := fun _ ds => decide (uptoBulkAll ds ≤ 1048576)
def OpenSpec.upto (s : _root_.Go.ChangeSpec) : _root_.Go.OpenSpec := { _root_.Go.OpenSpec.ofChange s with cond := some uptoSmall }

/-- 'almanaclaw8.RingRooms', WHERE WHAT IT READS IS OF BULK AT MOST 1048576: true; the input reads as it did. -/
def ringRoomsUptoRow : OpenClaim := { program := "ytlhpdkapddnbcaa", sum := "6e2118635a40fc7ecdce57aada90183a697eaa96501faa779aff3c5bc440bf68", func := "almanac/almanaclaw8.RingRooms", spec := "ringRooms", inPlace := ["internal/reflectlite.TypeOf"], unfollowed := true, recurses := true, plainKeys := false, apart := false, narrowed := true }
def RingRoomsUptoSaid : Prop := ringRoomsUptoRow.holds Try.pinned (OpenSpec.upto ringRoomsSpec)

/-- 'almanaclaw8.RingEach', WHERE WHAT IT READS IS OF BULK AT MOST 1048576: true; the input reads as it did. -/
def ringEachUptoRow : OpenClaim := { program := "ytlhpdkapddnbcaa", sum := "6e2118635a40fc7ecdce57aada90183a697eaa96501faa779aff3c5bc440bf68", func := "almanac/almanaclaw8.RingEach", spec := "ringEach", inPlace := ["internal/reflectlite.TypeOf"], unfollowed := true, recurses := true, plainKeys := false, apart := false, narrowed := true }
def RingEachUptoSaid : Prop := ringEachUptoRow.holds Try.pinned (OpenSpec.upto ringEachSpec)

/-- 'almanaclaw8.RingAny', WHERE WHAT IT READS IS OF BULK AT MOST 1048576: true; the input reads as it did. -/
def ringAnyUptoRow : OpenClaim := { program := "ytlhpdkapddnbcaa", sum := "6e2118635a40fc7ecdce57aada90183a697eaa96501faa779aff3c5bc440bf68", func := "almanac/almanaclaw8.RingAny", spec := "ringAny", inPlace := ["internal/reflectlite.TypeOf"], unfollowed := true, recurses := true, plainKeys := false, apart := false, narrowed := true }
def RingAnyUptoSaid : Prop := ringAnyUptoRow.holds Try.pinned (OpenSpec.upto ringAnySpec)

/-- 'almanaclaw8.RingPlays', WHERE WHAT IT READS IS OF BULK AT MOST 1048576: true; the input reads as it did. -/
def ringPlaysUptoRow : OpenClaim := { program := "ytlhpdkapddnbcaa", sum := "6e2118635a40fc7ecdce57aada90183a697eaa96501faa779aff3c5bc440bf68", func := "almanac/almanaclaw8.RingPlays", spec := "ringPlays", inPlace := ["internal/reflectlite.TypeOf"], unfollowed := true, recurses := true, plainKeys := false, apart := false, narrowed := true }
def RingPlaysUptoSaid : Prop := ringPlaysUptoRow.holds Try.pinned (OpenSpec.upto ringPlaysSpec)

/-- 'almanaclaw8.RingApart', WHERE WHAT IT READS IS OF BULK AT MOST 1048576: true; the input reads as it did. -/
def ringApartUptoRow : OpenClaim := { program := "ytlhpdkapddnbcaa", sum := "6e2118635a40fc7ecdce57aada90183a697eaa96501faa779aff3c5bc440bf68", func := "almanac/almanaclaw8.RingApart", spec := "ringApart", inPlace := ["internal/reflectlite.TypeOf"], unfollowed := true, recurses := true, plainKeys := false, apart := false, narrowed := true }
def RingApartUptoSaid : Prop := ringApartUptoRow.holds Try.pinned (OpenSpec.upto ringApartSpec)

/-- 'almanaclaw8.RingBursts', WHERE WHAT IT READS IS OF BULK AT MOST 1048576: true; the input reads as it did. -/
def ringBurstsUptoRow : OpenClaim := { program := "ytlhpdkapddnbcaa", sum := "6e2118635a40fc7ecdce57aada90183a697eaa96501faa779aff3c5bc440bf68", func := "almanac/almanaclaw8.RingBursts", spec := "ringBursts", inPlace := ["internal/reflectlite.TypeOf"], unfollowed := true, recurses := true, plainKeys := false, apart := false, narrowed := true }
def RingBurstsUptoSaid : Prop := ringBurstsUptoRow.holds Try.pinned (OpenSpec.upto ringBurstsSpec)

end Rows
end Go.Proofs.Ytlhpdkapddnbcaa
