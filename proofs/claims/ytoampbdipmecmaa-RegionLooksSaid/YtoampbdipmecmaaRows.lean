/-
  No cell of these rows narrows 'for every input' (looked for: loops, veiled, ifaces, maps, wideKeys, modest, calm, conditions, laid).
  DERIVED. THE GIVEN ROWS OF THIS SEAT. 5 by the template 'for every input the law returns true; each argument reads behind the call as it read before'; 0 by the template 'total and deterministic' (their statements: YtoampbdipmecmaaTotals.lean).
  GIVEN WITH THE SEED: the statements are not yours to turn. If you find one false, say at which input.
  Laid BY PROGRAM, IN A SANDBOX (cutbox-rows.mjs): the forced cells as the released guide's own fill.sh prints them over the translation 1cc62cee3d28c446… (all of the seat's roots in one cut). By AI agents, Wed Nov 11 2026. No macro, syntax, notation, axiom, sorry.
-/
import Derived.Test.YtoampbdipmecmaaChecked
import GoSem.Claim
import GoSem.ClaimJoined
import GoSem.ClaimMapViews
import Derived.JoinedTies
import Derived.KernelRfl
namespace Go.Proofs.Ytoampbdipmecmaa
/- THE CELL 'sum', in the pinned program and in every row, IS THE sha256 OF THE DUMP (.gsa) THAT YtoampbdipmecmaaProg.lean LOADS. Nothing in Lean hashes anything: it is a label: what it is worth is what the hold of that sum in a sandbox is worth. -/
noncomputable def Try.pinned : Pinned := { name := "ytoampbdipmecmaa", sum := "1cc62cee3d28c446db7b0d21bf6354e9a16db74c2af6c18ebc55a051272fc201", checked := Try.checked }
namespace Rows
def none {H : Type} : Left H := { results := [], args := [] }

/-- 'almanaclaw15.RegionOrders': WHATEVER THE INPUT: true; the input reads as it did. -/
def regionOrdersSpec : ChangeSpec := { name := "regionOrders", fn := fun _ => fun
  | [d1, d2] => { results := [.lit (.bool true)], args := [d1, d2] }
  | _ => none }
def regionOrdersRow : OpenClaim := { program := "ytoampbdipmecmaa", sum := "1cc62cee3d28c446db7b0d21bf6354e9a16db74c2af6c18ebc55a051272fc201", func := "almanac/almanaclaw15.RegionOrders", spec := "regionOrders", unfollowed := true, recurses := true, apart := false }
def RegionOrdersSaid : Prop := regionOrdersRow.holds Try.pinned (OpenSpec.ofChange regionOrdersSpec)

/-- ITS FALSE NEIGHBOUR: 'it returns false'. Refute it at one input. -/
def regionOrdersWrong : ChangeSpec := { name := "regionOrders", fn := fun _ => fun
  | [d1, d2] => { results := [.lit (.bool false)], args := [d1, d2] }
  | _ => none }
def RegionOrdersWrongFalsely : Prop := regionOrdersRow.holds Try.pinned (OpenSpec.ofChange regionOrdersWrong)

/-- 'almanaclaw15.RegionUndoes': WHATEVER THE INPUT: true; the input reads as it did. -/
def regionUndoesSpec : ChangeSpec := { name := "regionUndoes", fn := fun _ => fun
  | [d1, d2, d3, d4] => { results := [.lit (.bool true)], args := [d1, d2, d3, d4] }
  | _ => none }
def regionUndoesRow : OpenClaim := { program := "ytoampbdipmecmaa", sum := "1cc62cee3d28c446db7b0d21bf6354e9a16db74c2af6c18ebc55a051272fc201", func := "almanac/almanaclaw15.RegionUndoes", spec := "regionUndoes", unfollowed := true, recurses := true, apart := false }
def RegionUndoesSaid : Prop := regionUndoesRow.holds Try.pinned (OpenSpec.ofChange regionUndoesSpec)

/-- ITS FALSE NEIGHBOUR: 'it returns false'. Refute it at one input. -/
def regionUndoesWrong : ChangeSpec := { name := "regionUndoes", fn := fun _ => fun
  | [d1, d2, d3, d4] => { results := [.lit (.bool false)], args := [d1, d2, d3, d4] }
  | _ => none }
def RegionUndoesWrongFalsely : Prop := regionUndoesRow.holds Try.pinned (OpenSpec.ofChange regionUndoesWrong)

/-- 'almanaclaw15.RegionMakes': WHATEVER THE INPUT: true; the input reads as it did. -/
def regionMakesSpec : ChangeSpec := { name := "regionMakes", fn := fun _ => fun
  | [d1, d2, d3, d4, d5] => { results := [.lit (.bool true)], args := [d1, d2, d3, d4, d5] }
  | _ => none }
def regionMakesRow : OpenClaim := { program := "ytoampbdipmecmaa", sum := "1cc62cee3d28c446db7b0d21bf6354e9a16db74c2af6c18ebc55a051272fc201", func := "almanac/almanaclaw15.RegionMakes", spec := "regionMakes", unfollowed := true, recurses := true, apart := false }
def RegionMakesSaid : Prop := regionMakesRow.holds Try.pinned (OpenSpec.ofChange regionMakesSpec)

/-- ITS FALSE NEIGHBOUR: 'it returns false'. Refute it at one input. -/
def regionMakesWrong : ChangeSpec := { name := "regionMakes", fn := fun _ => fun
  | [d1, d2, d3, d4, d5] => { results := [.lit (.bool false)], args := [d1, d2, d3, d4, d5] }
  | _ => none }
def RegionMakesWrongFalsely : Prop := regionMakesRow.holds Try.pinned (OpenSpec.ofChange regionMakesWrong)

/-- 'almanaclaw15.RegionLooks': WHATEVER THE INPUT: true; the input reads as it did. -/
def regionLooksSpec : ChangeSpec := { name := "regionLooks", fn := fun _ => fun
  | [d1, d2, d3, d4, d5, d6] => { results := [.lit (.bool true)], args := [d1, d2, d3, d4, d5, d6] }
  | _ => none }
def regionLooksRow : OpenClaim := { program := "ytoampbdipmecmaa", sum := "1cc62cee3d28c446db7b0d21bf6354e9a16db74c2af6c18ebc55a051272fc201", func := "almanac/almanaclaw15.RegionLooks", spec := "regionLooks", unfollowed := true, recurses := true, apart := false }
def RegionLooksSaid : Prop := regionLooksRow.holds Try.pinned (OpenSpec.ofChange regionLooksSpec)

/-- ITS FALSE NEIGHBOUR: 'it returns false'. Refute it at one input. -/
def regionLooksWrong : ChangeSpec := { name := "regionLooks", fn := fun _ => fun
  | [d1, d2, d3, d4, d5, d6] => { results := [.lit (.bool false)], args := [d1, d2, d3, d4, d5, d6] }
  | _ => none }
def RegionLooksWrongFalsely : Prop := regionLooksRow.holds Try.pinned (OpenSpec.ofChange regionLooksWrong)

/-- 'almanaclaw15.RegionPieces': WHATEVER THE INPUT: true; the input reads as it did. -/
def regionPiecesSpec : ChangeSpec := { name := "regionPieces", fn := fun _ => fun
  | [d1, d2, d3] => { results := [.lit (.bool true)], args := [d1, d2, d3] }
  | _ => none }
def regionPiecesRow : OpenClaim := { program := "ytoampbdipmecmaa", sum := "1cc62cee3d28c446db7b0d21bf6354e9a16db74c2af6c18ebc55a051272fc201", func := "almanac/almanaclaw15.RegionPieces", spec := "regionPieces", unfollowed := true, recurses := true, apart := false }
def RegionPiecesSaid : Prop := regionPiecesRow.holds Try.pinned (OpenSpec.ofChange regionPiecesSpec)

/-- ITS FALSE NEIGHBOUR: 'it returns false'. Refute it at one input. -/
def regionPiecesWrong : ChangeSpec := { name := "regionPieces", fn := fun _ => fun
  | [d1, d2, d3] => { results := [.lit (.bool false)], args := [d1, d2, d3] }
  | _ => none }
def RegionPiecesWrongFalsely : Prop := regionPiecesRow.holds Try.pinned (OpenSpec.ofChange regionPiecesWrong)

/- THE SECOND FORM. 'bulk': how many values and letters a reading holds, each counted each time it is reached (what is shared counts as often as it is met; a slice's spare places count too). A statement '..UptoSaid' is the law's where the arguments, and the package variables that the reading takes, are together of bulk at most 1048576: NARROWER than '..Said'. Prove '..Said' where nothing that the law and all that it calls make is longer than what came in: it says more and counts as full. Else prove '..UptoSaid'. A law counts once. -/
mutual
def uptoBulk {H : Type} : DataW H → Nat
  | .lit (.string bytes) => bytes.length + 1
  | .lit _ => 1
  | .nil => 1
  | .ptr d => uptoBulk d + 1
  | .slice elems spare => uptoBulkAll elems + uptoBulkAll spare + 1
  | .agg parts => uptoBulkAll parts + 1
  | .iface _ d => uptoBulk d + 1
  | .map entries => uptoBulkEntries entries + 1
  | .held _ => 1
def uptoBulkAll {H : Type} : List (DataW H) → Nat
  | [] => 0
  | d :: r => uptoBulk d + uptoBulkAll r
def uptoBulkEntries {H : Type} : List (Lit × DataW H) → Nat
  | [] => 0
  | x :: r => uptoBulkEntry x + uptoBulkEntries r
def uptoBulkEntry {H : Type} : Lit × DataW H → Nat
  | (.string bytes, d) => bytes.length + uptoBulk d + 1
  | (_, d) => uptoBulk d + 1
 end
def uptoSmall : (H : Type) → List (DataW H) → Bool := fun _ ds => decide (uptoBulkAll ds ≤ 1048576)
def OpenSpec.upto (s : _root_.Go.ChangeSpec) : _root_.Go.OpenSpec := { _root_.Go.OpenSpec.ofChange s with cond := some uptoSmall }

/-- 'almanaclaw15.RegionOrders', WHERE WHAT IT READS IS OF BULK AT MOST 1048576: true; the input reads as it did. -/
def regionOrdersUptoRow : OpenClaim := { program := "ytoampbdipmecmaa", sum := "1cc62cee3d28c446db7b0d21bf6354e9a16db74c2af6c18ebc55a051272fc201", func := "almanac/almanaclaw15.RegionOrders", spec := "regionOrders", unfollowed := true, recurses := true, apart := false, narrowed := true }
def RegionOrdersUptoSaid : Prop := regionOrdersUptoRow.holds Try.pinned (OpenSpec.upto regionOrdersSpec)

/-- 'almanaclaw15.RegionUndoes', WHERE WHAT IT READS IS OF BULK AT MOST 1048576: true; the input reads as it did. -/
def regionUndoesUptoRow : OpenClaim := { program := "ytoampbdipmecmaa", sum := "1cc62cee3d28c446db7b0d21bf6354e9a16db74c2af6c18ebc55a051272fc201", func := "almanac/almanaclaw15.RegionUndoes", spec := "regionUndoes", unfollowed := true, recurses := true, apart := false, narrowed := true }
def RegionUndoesUptoSaid : Prop := regionUndoesUptoRow.holds Try.pinned (OpenSpec.upto regionUndoesSpec)

/-- 'almanaclaw15.RegionMakes', WHERE WHAT IT READS IS OF BULK AT MOST 1048576: true; the input reads as it did. -/
def regionMakesUptoRow : OpenClaim := { program := "ytoampbdipmecmaa", sum := "1cc62cee3d28c446db7b0d21bf6354e9a16db74c2af6c18ebc55a051272fc201", func := "almanac/almanaclaw15.RegionMakes", spec := "regionMakes", unfollowed := true, recurses := true, apart := false, narrowed := true }
def RegionMakesUptoSaid : Prop := regionMakesUptoRow.holds Try.pinned (OpenSpec.upto regionMakesSpec)

/-- 'almanaclaw15.RegionLooks', WHERE WHAT IT READS IS OF BULK AT MOST 1048576: true; the input reads as it did. -/
def regionLooksUptoRow : OpenClaim := { program := "ytoampbdipmecmaa", sum := "1cc62cee3d28c446db7b0d21bf6354e9a16db74c2af6c18ebc55a051272fc201", func := "almanac/almanaclaw15.RegionLooks", spec := "regionLooks", unfollowed := true, recurses := true, apart := false, narrowed := true }
def RegionLooksUptoSaid : Prop := regionLooksUptoRow.holds Try.pinned (OpenSpec.upto regionLooksSpec)

/-- 'almanaclaw15.RegionPieces', WHERE WHAT IT READS IS OF BULK AT MOST 1048576: true; the input reads as it did. -/
def regionPiecesUptoRow : OpenClaim := { program := "ytoampbdipmecmaa", sum := "1cc62cee3d28c446db7b0d21bf6354e9a16db74c2af6c18ebc55a051272fc201", func := "almanac/almanaclaw15.RegionPieces", spec := "regionPieces", unfollowed := true, recurses := true, apart := false, narrowed := true }
def RegionPiecesUptoSaid : Prop := regionPiecesUptoRow.holds Try.pinned (OpenSpec.upto regionPiecesSpec)

end Rows
end Go.Proofs.Ytoampbdipmecmaa
