/-
  No cell of these rows narrows 'for every input' (looked for: loops, veiled, ifaces, maps, wideKeys, modest, calm, conditions, laid).
  DERIVED. THE GIVEN ROWS OF THIS SEAT. 3 by the template 'for every input the law returns true; each argument reads behind the call as it read before'; 0 by the template 'total and deterministic' (their statements: YtnbjodoajfkekaaGreatTotals.lean).
  GIVEN WITH THE SEED: the statements are not yours to turn. If you find one false, say at which input.
  Laid BY PROGRAM, IN A SANDBOX (cutbox-rows.mjs): the forced cells as the released guide's own fill.sh prints them over the translation fc75ceae4a148d6c… (all of the seat's roots in one cut). By AI agents, Wed Nov 11 2026. No macro, syntax, notation, axiom, sorry.
-/
import Derived.Test.YtnbjodoajfkekaaGreatChecked
import GoSem.Claim
import GoSem.ClaimJoined
import GoSem.ClaimMapViews
import Derived.JoinedTies
import Derived.KernelRfl
namespace Go.Proofs.YtnbjodoajfkekaaGreat
/- THE CELL 'sum', in the pinned program and in every row, IS THE sha256 OF THE DUMP (.gsa) THAT YtnbjodoajfkekaaGreatProg.lean LOADS. Nothing in Lean hashes anything: it is a label: what it is worth is what the hold of that sum in a sandbox is worth. -/
noncomputable def Tryz.pinned : Pinned := { name := "ytnbjodoajfkekaagreat", sum := "fc75ceae4a148d6cc13b15f315ed0292edbb22e18e9a89ca477620b937abf229", checked := Tryz.checked }
namespace Rows
def none {H : Type} : Left H := { results := [], args := [] }

/-- 'almanaclaw18.ModelPlays': WHATEVER THE INPUT: true; the input reads as it did. -/
def modelPlaysSpec : ChangeSpec := { name := "modelPlays", fn := fun _ => fun
  | [d1, d2, d3, d4] => { results := [.lit (.bool true)], args := [d1, d2, d3, d4] }
  | _ => none }
def modelPlaysRow : OpenClaim := { program := "ytnbjodoajfkekaagreat", sum := "fc75ceae4a148d6cc13b15f315ed0292edbb22e18e9a89ca477620b937abf229", func := "almanac/almanaclaw18.ModelPlays", spec := "modelPlays", unfollowed := true, recurses := true, plainKeys := false, apart := false }
def ModelPlaysSaid : Prop := modelPlaysRow.holds Tryz.pinned (OpenSpec.ofChange modelPlaysSpec)

/-- ITS FALSE NEIGHBOUR: 'it returns false'. Refute it at one input. -/
def modelPlaysWrong : ChangeSpec := { name := "modelPlays", fn := fun _ => fun
  | [d1, d2, d3, d4] => { results := [.lit (.bool false)], args := [d1, d2, d3, d4] }
  | _ => none }
def ModelPlaysWrongFalsely : Prop := modelPlaysRow.holds Tryz.pinned (OpenSpec.ofChange modelPlaysWrong)

/-- 'almanaclaw18.ModelBytes': WHATEVER THE INPUT: true; the input reads as it did. -/
def modelBytesSpec : ChangeSpec := { name := "modelBytes", fn := fun _ => fun
  | [d1, d2] => { results := [.lit (.bool true)], args := [d1, d2] }
  | _ => none }
def modelBytesRow : OpenClaim := { program := "ytnbjodoajfkekaagreat", sum := "fc75ceae4a148d6cc13b15f315ed0292edbb22e18e9a89ca477620b937abf229", func := "almanac/almanaclaw18.ModelBytes", spec := "modelBytes", unfollowed := true, recurses := true, plainKeys := false, apart := false }
def ModelBytesSaid : Prop := modelBytesRow.holds Tryz.pinned (OpenSpec.ofChange modelBytesSpec)

/-- ITS FALSE NEIGHBOUR: 'it returns false'. Refute it at one input. -/
def modelBytesWrong : ChangeSpec := { name := "modelBytes", fn := fun _ => fun
  | [d1, d2] => { results := [.lit (.bool false)], args := [d1, d2] }
  | _ => none }
def ModelBytesWrongFalsely : Prop := modelBytesRow.holds Tryz.pinned (OpenSpec.ofChange modelBytesWrong)

/-- 'almanaclaw18.ModelPairs': WHATEVER THE INPUT: true; the input reads as it did. -/
def modelPairsSpec : ChangeSpec := { name := "modelPairs", fn := fun _ => fun
  | [d1, d2, d3, d4] => { results := [.lit (.bool true)], args := [d1, d2, d3, d4] }
  | _ => none }
def modelPairsRow : OpenClaim := { program := "ytnbjodoajfkekaagreat", sum := "fc75ceae4a148d6cc13b15f315ed0292edbb22e18e9a89ca477620b937abf229", func := "almanac/almanaclaw18.ModelPairs", spec := "modelPairs", inPlace := ["maps.clone"], unfollowed := true, recurses := true, plainKeys := false, apart := false }
def ModelPairsSaid : Prop := modelPairsRow.holds Tryz.pinned (OpenSpec.ofChange modelPairsSpec)

/-- ITS FALSE NEIGHBOUR: 'it returns false'. Refute it at one input. -/
def modelPairsWrong : ChangeSpec := { name := "modelPairs", fn := fun _ => fun
  | [d1, d2, d3, d4] => { results := [.lit (.bool false)], args := [d1, d2, d3, d4] }
  | _ => none }
def ModelPairsWrongFalsely : Prop := modelPairsRow.holds Tryz.pinned (OpenSpec.ofChange modelPairsWrong)

/- THE SECOND FORM. 'bulk': how many values and letters a reading holds, each counted each time it is reached (what is shared counts as often as it is met; a slice's spare places count too). A statement '..UptoSaid' is the law's where the arguments, and the package variables that the reading takes, are together of bulk at most 1048576: NARROWER than '..Said'. Prove '..Said' where nothing that the law and all that it calls make is longer than what came in: it says more and counts as full. Else prove '..UptoSaid'. A law counts once. -/
mutual
def uptoBulk {H : Type} : DataW H → Nat
  | .lit (.string bytes) => bytes.length + 1
  | .lit _ => 1
  | .nil => 1
  | .ptr d => uptoBulk d + 1
  | .slice elems spare => uptoBulkAll elems + uptoBulkAll spare + 1
  | .agg parts => uptoBulkAll parts + 1
  | .iface _ d => uptoBulk d + 1
  | .map entries => uptoBulkEntries entries + 1
  | .held _ => 1
def uptoBulkAll {H : Type} : List (DataW H) → Nat
  | [] => 0
  | d :: r => uptoBulk d + uptoBulkAll r
def uptoBulkEntries {H : Type} : List (Lit × DataW H) → Nat
  | [] => 0
  | x :: r => uptoBulkEntry x + uptoBulkEntries r
def uptoBulkEntry {H : Type} : Lit × DataW H → Nat
  | (.string bytes, d) => bytes.length + uptoBulk d + 1
  | (_, d) => uptoBulk d + 1
 end
def uptoSmall : (H : Type) → List (DataW H) → Bool := fun _ ds => decide (uptoBulkAll ds ≤ 1048576)
def OpenSpec.upto (s : _root_.Go.ChangeSpec) : _root_.Go.OpenSpec := { _root_.Go.OpenSpec.ofChange s with cond := some uptoSmall }

/-- 'almanaclaw18.ModelPlays', WHERE WHAT IT READS IS OF BULK AT MOST 1048576: true; the input reads as it did. -/
def modelPlaysUptoRow : OpenClaim := { program := "ytnbjodoajfkekaagreat", sum := "fc75ceae4a148d6cc13b15f315ed0292edbb22e18e9a89ca477620b937abf229", func := "almanac/almanaclaw18.ModelPlays", spec := "modelPlays", unfollowed := true, recurses := true, plainKeys := false, apart := false, narrowed := true }
def ModelPlaysUptoSaid : Prop := modelPlaysUptoRow.holds Tryz.pinned (OpenSpec.upto modelPlaysSpec)

/-- 'almanaclaw18.ModelBytes', WHERE WHAT IT READS IS OF BULK AT MOST 1048576: true; the input reads as it did. -/
def modelBytesUptoRow : OpenClaim := { program := "ytnbjodoajfkekaagreat", sum := "fc75ceae4a148d6cc13b15f315ed0292edbb22e18e9a89ca477620b937abf229", func := "almanac/almanaclaw18.ModelBytes", spec := "modelBytes", unfollowed := true, recurses := true, plainKeys := false, apart := false, narrowed := true }
def ModelBytesUptoSaid : Prop := modelBytesUptoRow.holds Tryz.pinned (OpenSpec.upto modelBytesSpec)

/-- 'almanaclaw18.ModelPairs', WHERE WHAT IT READS IS OF BULK AT MOST 1048576: true; the input reads as it did. -/
def modelPairsUptoRow : OpenClaim := { program := "ytnbjodoajfkekaagreat", sum := "fc75ceae4a148d6cc13b15f315ed0292edbb22e18e9a89ca477620b937abf229", func := "almanac/almanaclaw18.ModelPairs", spec := "modelPairs", inPlace := ["maps.clone"], unfollowed := true, recurses := true, plainKeys := false, apart := false, narrowed := true }
def ModelPairsUptoSaid : Prop := modelPairsUptoRow.holds Tryz.pinned (OpenSpec.upto modelPairsSpec)

end Rows
end Go.Proofs.YtnbjodoajfkekaaGreat
