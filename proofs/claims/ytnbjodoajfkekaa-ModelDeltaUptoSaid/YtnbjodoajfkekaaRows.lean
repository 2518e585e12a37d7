/-
  No cell of these rows narrows 'for every input' (looked for: loops, veiled, ifaces, maps, wideKeys, modest, calm, conditions, laid).
  DERIVED. THE GIVEN ROWS OF THIS SEAT. 3 by the template 'for every input the law returns true; each argument reads behind the call as it read before'; 0 by the template 'total and deterministic' (their statements: YtnbjodoajfkekaaTotals.lean).
  GIVEN WITH THE SEED: the statements are not yours to turn. If you find one false, say at which input.
  Laid BY PROGRAM, IN A SANDBOX (cutbox-rows.mjs): the forced cells as the released guide's own fill.sh prints them over the translation cc96ae2f4f93f49d… (all of the seat's roots in one cut). By AI agents, Wed Nov 11 2026. No macro, syntax, notation, axiom, sorry.
-/
import Derived.Test.YtnbjodoajfkekaaChecked
import GoSem.Claim
import GoSem.ClaimJoined
import GoSem.ClaimMapViews
import Derived.JoinedTies
import Derived.KernelRfl
namespace Go.Proofs.Ytnbjodoajfkekaa
/- THE CELL 'sum', in the pinned program and in every row, IS THE sha256 OF THE DUMP (.gsa) THAT YtnbjodoajfkekaaProg.lean LOADS. Nothing in Lean hashes anything: it is a label: what it is worth is what the hold of that sum in a sandbox is worth. -/
noncomputable def Try.pinned : Pinned := { name := "ytnbjodoajfkekaa", sum := "cc96ae2f4f93f49d04db9e8c90835baf6c349b08956ae4d5a1657afdf627812f", checked := Try.checked }
namespace Rows
def none {H : Type} : Left H := { results := [], args := [] }

/-- 'almanaclaw18.ModelForks': WHATEVER THE INPUT: true; the input reads as it did. -/
def modelForksSpec : ChangeSpec := { name := "modelForks", fn := fun _ => fun
  | [d1, d2, d3, d4] => { results := [.lit (.bool true)], args := [d1, d2, d3, d4] }
  | _ => none }
def modelForksRow : OpenClaim := { program := "ytnbjodoajfkekaa", sum := "cc96ae2f4f93f49d04db9e8c90835baf6c349b08956ae4d5a1657afdf627812f", func := "almanac/almanaclaw18.ModelForks", spec := "modelForks", unfollowed := true, recurses := true, plainKeys := false, apart := false }
def ModelForksSaid : Prop := modelForksRow.holds Try.pinned (OpenSpec.ofChange modelForksSpec)

/-- ITS FALSE NEIGHBOUR: 'it returns false'. Refute it at one input. -/
def modelForksWrong : ChangeSpec := { name := "modelForks", fn := fun _ => fun
  | [d1, d2, d3, d4] => { results := [.lit (.bool false)], args := [d1, d2, d3, d4] }
  | _ => none }
def ModelForksWrongFalsely : Prop := modelForksRow.holds Try.pinned (OpenSpec.ofChange modelForksWrong)

/-- 'almanaclaw18.ModelApart': WHATEVER THE INPUT: true; the input reads as it did. -/
def modelApartSpec : ChangeSpec := { name := "modelApart", fn := fun _ => fun
  | [d1, d2, d3] => { results := [.lit (.bool true)], args := [d1, d2, d3] }
  | _ => none }
def modelApartRow : OpenClaim := { program := "ytnbjodoajfkekaa", sum := "cc96ae2f4f93f49d04db9e8c90835baf6c349b08956ae4d5a1657afdf627812f", func := "almanac/almanaclaw18.ModelApart", spec := "modelApart", inPlace := ["maps.clone"], unfollowed := true, recurses := true, plainKeys := false, apart := false }
def ModelApartSaid : Prop := modelApartRow.holds Try.pinned (OpenSpec.ofChange modelApartSpec)

/-- ITS FALSE NEIGHBOUR: 'it returns false'. Refute it at one input. -/
def modelApartWrong : ChangeSpec := { name := "modelApart", fn := fun _ => fun
  | [d1, d2, d3] => { results := [.lit (.bool false)], args := [d1, d2, d3] }
  | _ => none }
def ModelApartWrongFalsely : Prop := modelApartRow.holds Try.pinned (OpenSpec.ofChange modelApartWrong)

/-- 'almanaclaw18.ModelDelta': WHATEVER THE INPUT: true; the input reads as it did. -/
def modelDeltaSpec : ChangeSpec := { name := "modelDelta", fn := fun _ => fun
  | [d1, d2, d3] => { results := [.lit (.bool true)], args := [d1, d2, d3] }
  | _ => none }
def modelDeltaRow : OpenClaim := { program := "ytnbjodoajfkekaa", sum := "cc96ae2f4f93f49d04db9e8c90835baf6c349b08956ae4d5a1657afdf627812f", func := "almanac/almanaclaw18.ModelDelta", spec := "modelDelta", inPlace := ["maps.clone"], unfollowed := true, recurses := true, plainKeys := false, apart := false }
def ModelDeltaSaid : Prop := modelDeltaRow.holds Try.pinned (OpenSpec.ofChange modelDeltaSpec)

/-- ITS FALSE NEIGHBOUR: 'it returns false'. Refute it at one input. -/
def modelDeltaWrong : ChangeSpec := { name := "modelDelta", fn := fun _ => fun
  | [d1, d2, d3] => { results := [.lit (.bool false)], args := [d1, d2, d3] }
  | _ => none }
def ModelDeltaWrongFalsely : Prop := modelDeltaRow.holds Try.pinned (OpenSpec.ofChange modelDeltaWrong)

/- THE SECOND FORM. 'bulk': how many values and letters a reading holds, each counted each time it is reached (what is shared counts as often as it is met; a slice's spare places count too). A statement '..UptoSaid' is the law's where the arguments, and the package variables that the reading takes, are together of bulk at most 1048576: NARROWER than '..Said'. Prove '..Said' where nothing that the law and all that it calls make is longer than what came in: it says more and counts as full. Else prove '..UptoSaid'. A law counts once. -/
mutual
def uptoBulk {H : Type} : DataW H → Nat
  | .lit (.string bytes) => bytes.length + 1
  | .lit _ => 1
  | .nil => 1
  | .ptr d => uptoBulk d + 1
  | .slice elems spare => uptoBulkAll elems + uptoBulkAll spare + 1
  | .agg parts => uptoBulkAll parts + 1
  | .iface _ d => uptoBulk d + 1
  | .map entries => uptoBulkEntries entries + 1
  | .held _ => 1
def uptoBulkAll {H : Type} : List (DataW H) → Nat
  | [] => 0
  | d :: r => uptoBulk d + uptoBulkAll r
def uptoBulkEntries {H : Type} : List (Lit × DataW H) → Nat
  | [] => 0
  | x :: r => uptoBulkEntry x + uptoBulkEntries r
def uptoBulkEntry {H : Type} : Lit × DataW H → Nat
  | (.string bytes, d) => bytes.length + uptoBulk d + 1
  | (_, d) => uptoBulk d + 1
 end
def uptoSmall : (H : Type) → List (DataW H) → Bool := fun _ ds => decide (uptoBulkAll ds ≤ 1048576)
def OpenSpec.upto (s : _root_.Go.ChangeSpec) : _root_.Go.OpenSpec := { _root_.Go.OpenSpec.ofChange s with cond := some uptoSmall }

/-- 'almanaclaw18.ModelForks', WHERE WHAT IT READS IS OF BULK AT MOST 1048576: true; the input reads as it did. -/
def modelForksUptoRow : OpenClaim := { program := "ytnbjodoajfkekaa", sum := "cc96ae2f4f93f49d04db9e8c90835baf6c349b08956ae4d5a1657afdf627812f", func := "almanac/almanaclaw18.ModelForks", spec := "modelForks", unfollowed := true, recurses := true, plainKeys := false, apart := false, narrowed := true }
def ModelForksUptoSaid : Prop := modelForksUptoRow.holds Try.pinned (OpenSpec.upto modelForksSpec)

/-- 'almanaclaw18.ModelApart', WHERE WHAT IT READS IS OF BULK AT MOST 1048576: true; the input reads as it did. -/
def modelApartUptoRow : OpenClaim := { program := "ytnbjodoajfkekaa", sum := "cc96ae2f4f93f49d04db9e8c90835baf6c349b08956ae4d5a1657afdf627812f", func := "almanac/almanaclaw18.ModelApart", spec := "modelApart", inPlace := ["maps.clone"], unfollowed := true, recurses := true, plainKeys := false, apart := false, narrowed := true }
def ModelApartUptoSaid : Prop := modelApartUptoRow.holds Try.pinned (OpenSpec.upto modelApartSpec)

/-- 'almanaclaw18.ModelDelta', WHERE WHAT IT READS IS OF BULK AT MOST 1048576: true; the input reads as it did. -/
def modelDeltaUptoRow : OpenClaim := { program := "ytnbjodoajfkekaa", sum := "cc96ae2f4f93f49d04db9e8c90835baf6c349b08956ae4d5a1657afdf627812f", func := "almanac/almanaclaw18.ModelDelta", spec := "modelDelta", inPlace := ["maps.clone"], unfollowed := true, recurses := true, plainKeys := false, apart := false, narrowed := true }
def ModelDeltaUptoSaid : Prop := modelDeltaUptoRow.holds Try.pinned (OpenSpec.upto modelDeltaSpec)

end Rows
end Go.Proofs.Ytnbjodoajfkekaa
