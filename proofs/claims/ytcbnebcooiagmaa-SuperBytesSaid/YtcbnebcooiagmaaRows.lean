/-
  No cell of these rows narrows 'for every input' (looked for: loops, veiled, ifaces, maps, wideKeys, modest, calm, conditions, laid).
  DERIVED. THE GIVEN ROWS OF THIS SEAT. 5 by the template 'for every input the law returns true; each argument reads behind the call as it read before'; 0 by the template 'total and deterministic' (their statements: YtcbnebcooiagmaaTotals.lean).
  GIVEN WITH THE SEED: the statements are not yours to turn. If you find one false, say at which input.
  Laid BY PROGRAM, IN A SANDBOX (cutbox-rows.mjs): the forced cells as the released guide's own fill.sh prints them over the translation 051d2e0037df295f… (all of the seat's roots in one cut). By AI agents, Wed Nov 11 2026. No macro, syntax, notation, axiom, sorry.
-/
import Derived.Test.YtcbnebcooiagmaaChecked
import GoSem.Claim
import GoSem.ClaimJoined
import GoSem.ClaimMapViews
import Derived.JoinedTies
import Derived.KernelRfl
namespace Go.Proofs.Ytcbnebcooiagmaa
/- THE CELL 'sum', in the pinned program and in every row, IS THE sha256 OF THE DUMP (.gsa) THAT YtcbnebcooiagmaaProg.lean LOADS. Nothing in Lean hashes anything: it is a label: what it is worth is what the hold of that sum in a sandbox is worth. -/
noncomputable def Try.pinned : Pinned := { name := "ytcbnebcooiagmaa", sum := "051d2e0037df295fc5f76e31f12f8099339e86a96b6486d85c4668461fb17e71", checked := Try.checked }
namespace Rows
def none {H : Type} : Left H := { results := [], args := [] }

/-- 'almanaclaw20.SuperBytes': WHATEVER THE INPUT: true; the input reads as it did. -/
def superBytesSpec : ChangeSpec := { name := "superBytes", fn := fun _ => fun
  | [d1, d2, d3] => { results := [.lit (.bool true)], args := [d1, d2, d3] }
  | _ => none }
def superBytesRow : OpenClaim := { program := "ytcbnebcooiagmaa", sum := "051d2e0037df295fc5f76e31f12f8099339e86a96b6486d85c4668461fb17e71", func := "almanac/almanaclaw20.SuperBytes", spec := "superBytes", unfollowed := true, recurses := true, plainKeys := false, apart := false }
def SuperBytesSaid : Prop := superBytesRow.holds Try.pinned (OpenSpec.ofChange superBytesSpec)

/-- ITS FALSE NEIGHBOUR: 'it returns false'. Refute it at one input. -/
def superBytesWrong : ChangeSpec := { name := "superBytes", fn := fun _ => fun
  | [d1, d2, d3] => { results := [.lit (.bool false)], args := [d1, d2, d3] }
  | _ => none }
def SuperBytesWrongFalsely : Prop := superBytesRow.holds Try.pinned (OpenSpec.ofChange superBytesWrong)

/-- 'almanaclaw20.SuperBack': WHATEVER THE INPUT: true; the input reads as it did. -/
def superBackSpec : ChangeSpec := { name := "superBack", fn := fun _ => fun
  | [d1, d2, d3] => { results := [.lit (.bool true)], args := [d1, d2, d3] }
  | _ => none }
def superBackRow : OpenClaim := { program := "ytcbnebcooiagmaa", sum := "051d2e0037df295fc5f76e31f12f8099339e86a96b6486d85c4668461fb17e71", func := "almanac/almanaclaw20.SuperBack", spec := "superBack", unfollowed := true, recurses := true, plainKeys := false, apart := false }
def SuperBackSaid : Prop := superBackRow.holds Try.pinned (OpenSpec.ofChange superBackSpec)

/-- ITS FALSE NEIGHBOUR: 'it returns false'. Refute it at one input. -/
def superBackWrong : ChangeSpec := { name := "superBack", fn := fun _ => fun
  | [d1, d2, d3] => { results := [.lit (.bool false)], args := [d1, d2, d3] }
  | _ => none }
def SuperBackWrongFalsely : Prop := superBackRow.holds Try.pinned (OpenSpec.ofChange superBackWrong)

/-- 'almanaclaw20.SuperTurns': WHATEVER THE INPUT: true; the input reads as it did. -/
def superTurnsSpec : ChangeSpec := { name := "superTurns", fn := fun _ => fun
  | [d1, d2, d3] => { results := [.lit (.bool true)], args := [d1, d2, d3] }
  | _ => none }
def superTurnsRow : OpenClaim := { program := "ytcbnebcooiagmaa", sum := "051d2e0037df295fc5f76e31f12f8099339e86a96b6486d85c4668461fb17e71", func := "almanac/almanaclaw20.SuperTurns", spec := "superTurns", unfollowed := true, recurses := true, plainKeys := false, apart := false }
def SuperTurnsSaid : Prop := superTurnsRow.holds Try.pinned (OpenSpec.ofChange superTurnsSpec)

/-- ITS FALSE NEIGHBOUR: 'it returns false'. Refute it at one input. -/
def superTurnsWrong : ChangeSpec := { name := "superTurns", fn := fun _ => fun
  | [d1, d2, d3] => { results := [.lit (.bool false)], args := [d1, d2, d3] }
  | _ => none }
def SuperTurnsWrongFalsely : Prop := superTurnsRow.holds Try.pinned (OpenSpec.ofChange superTurnsWrong)

/-- 'almanaclaw20.SuperCuts': WHATEVER THE INPUT: true; the input reads as it did. -/
def superCutsSpec : ChangeSpec := { name := "superCuts", fn := fun _ => fun
  | [d1, d2, d3, d4] => { results := [.lit (.bool true)], args := [d1, d2, d3, d4] }
  | _ => none }
def superCutsRow : OpenClaim := { program := "ytcbnebcooiagmaa", sum := "051d2e0037df295fc5f76e31f12f8099339e86a96b6486d85c4668461fb17e71", func := "almanac/almanaclaw20.SuperCuts", spec := "superCuts", unfollowed := true, recurses := true, plainKeys := false, apart := false }
def SuperCutsSaid : Prop := superCutsRow.holds Try.pinned (OpenSpec.ofChange superCutsSpec)

/-- ITS FALSE NEIGHBOUR: 'it returns false'. Refute it at one input. -/
def superCutsWrong : ChangeSpec := { name := "superCuts", fn := fun _ => fun
  | [d1, d2, d3, d4] => { results := [.lit (.bool false)], args := [d1, d2, d3, d4] }
  | _ => none }
def SuperCutsWrongFalsely : Prop := superCutsRow.holds Try.pinned (OpenSpec.ofChange superCutsWrong)

/-- 'almanaclaw20.SuperReads': WHATEVER THE INPUT: true; the input reads as it did. -/
def superReadsSpec : ChangeSpec := { name := "superReads", fn := fun _ => fun
  | [d1, d2, d3, d4, d5, d6] => { results := [.lit (.bool true)], args := [d1, d2, d3, d4, d5, d6] }
  | _ => none }
def superReadsRow : OpenClaim := { program := "ytcbnebcooiagmaa", sum := "051d2e0037df295fc5f76e31f12f8099339e86a96b6486d85c4668461fb17e71", func := "almanac/almanaclaw20.SuperReads", spec := "superReads", unfollowed := true, recurses := true, plainKeys := false, apart := false }
def SuperReadsSaid : Prop := superReadsRow.holds Try.pinned (OpenSpec.ofChange superReadsSpec)

/-- ITS FALSE NEIGHBOUR: 'it returns false'. Refute it at one input. -/
def superReadsWrong : ChangeSpec := { name := "superReads", fn := fun _ => fun
  | [d1, d2, d3, d4, d5, d6] => { results := [.lit (.bool false)], args := [d1, d2, d3, d4, d5, d6] }
  | _ => none }
def SuperReadsWrongFalsely : Prop := superReadsRow.holds Try.pinned (OpenSpec.ofChange superReadsWrong)

/- THE SECOND FORM. 'bulk': how many values and letters a reading holds, each counted each time it is reached (what is shared counts as often as it is met; a slice's spare places count too). A statement '..UptoSaid' is the law's where the arguments, and the package variables that the reading takes, are together of bulk at most 1048576: NARROWER than '..Said'. Prove '..Said' where nothing that the law and all that it calls make is longer than what came in: it says more and counts as full. Else prove '..UptoSaid'. A law counts once. -/
mutual
def uptoBulk {H : Type} : DataW H → Nat
  | .lit (.string bytes) => bytes.length + 1
  | .lit _ => 1
  | .nil => 1
  | .ptr d => uptoBulk d + 1
  | .slice elems spare => uptoBulkAll elems + uptoBulkAll spare + 1
  | .agg parts => uptoBulkAll parts + 1
  | .iface _ d => uptoBulk d + 1
  | .map entries => uptoBulkEntries entries + 1
  | .held _ => 1
def uptoBulkAll {H : Type} : List (DataW H) → Nat
  | [] => 0
  | d :: r => uptoBulk d + uptoBulkAll r
def uptoBulkEntries {H : Type} : List (Lit × DataW H) → Nat
  | [] => 0
  | x :: r => uptoBulkEntry x + uptoBulkEntries r
def uptoBulkEntry {H : Type} : Lit × DataW H → Nat
  | (.string bytes, d) => bytes.length + uptoBulk d + 1
  | (_, d) => uptoBulk d + 1
 end
def uptoSmall : (H : Type) → List (DataW H) → Bool := fun _ ds => decide (uptoBulkAll ds ≤ 1048576)
def OpenSpec.upto (s : _root_.Go.ChangeSpec) : _root_.Go.OpenSpec := { _root_.Go.OpenSpec.ofChange s with cond := some uptoSmall }

/-- 'almanaclaw20.SuperBytes', WHERE WHAT IT READS IS OF BULK AT MOST 1048576: true; the input reads as it did. -/
def superBytesUptoRow : OpenClaim := { program := "ytcbnebcooiagmaa", sum := "051d2e0037df295fc5f76e31f12f8099339e86a96b6486d85c4668461fb17e71", func := "almanac/almanaclaw20.SuperBytes", spec := "superBytes", unfollowed := true, recurses := true, plainKeys := false, apart := false, narrowed := true }
def SuperBytesUptoSaid : Prop := superBytesUptoRow.holds Try.pinned (OpenSpec.upto superBytesSpec)

/-- 'almanaclaw20.SuperBack', WHERE WHAT IT READS IS OF BULK AT MOST 1048576: true; the input reads as it did. -/
def superBackUptoRow : OpenClaim := { program := "ytcbnebcooiagmaa", sum := "051d2e0037df295fc5f76e31f12f8099339e86a96b6486d85c4668461fb17e71", func := "almanac/almanaclaw20.SuperBack", spec := "superBack", unfollowed := true, recurses := true, plainKeys := false, apart := false, narrowed := true }
def SuperBackUptoSaid : Prop := superBackUptoRow.holds Try.pinned (OpenSpec.upto superBackSpec)

/-- 'almanaclaw20.SuperTurns', WHERE WHAT IT READS IS OF BULK AT MOST 1048576: true; the input reads as it did. -/
def superTurnsUptoRow : OpenClaim := { program := "ytcbnebcooiagmaa", sum := "051d2e0037df295fc5f76e31f12f8099339e86a96b6486d85c4668461fb17e71", func := "almanac/almanaclaw20.SuperTurns", spec := "superTurns", unfollowed := true, recurses := true, plainKeys := false, apart := false, narrowed := true }
def SuperTurnsUptoSaid : Prop := superTurnsUptoRow.holds Try.pinned (OpenSpec.upto superTurnsSpec)

/-- 'almanaclaw20.SuperCuts', WHERE WHAT IT READS IS OF BULK AT MOST 1048576: true; the input reads as it did. -/
def superCutsUptoRow : OpenClaim := { program := "ytcbnebcooiagmaa", sum := "051d2e0037df295fc5f76e31f12f8099339e86a96b6486d85c4668461fb17e71", func := "almanac/almanaclaw20.SuperCuts", spec := "superCuts", unfollowed := true, recurses := true, plainKeys := false, apart := false, narrowed := true }
def SuperCutsUptoSaid : Prop := superCutsUptoRow.holds Try.pinned (OpenSpec.upto superCutsSpec)

/-- 'almanaclaw20.SuperReads', WHERE WHAT IT READS IS OF BULK AT MOST 1048576: true; the input reads as it did. -/
def superReadsUptoRow : OpenClaim := { program := "ytcbnebcooiagmaa", sum := "051d2e0037df295fc5f76e31f12f8099339e86a96b6486d85c4668461fb17e71", func := "almanac/almanaclaw20.SuperReads", spec := "superReads", unfollowed := true, recurses := true, plainKeys := false, apart := false, narrowed := true }
def SuperReadsUptoSaid : Prop := superReadsUptoRow.holds Try.pinned (OpenSpec.upto superReadsSpec)

end Rows
end Go.Proofs.Ytcbnebcooiagmaa
