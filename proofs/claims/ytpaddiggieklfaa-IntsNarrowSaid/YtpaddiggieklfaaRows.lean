/-
  No cell of these rows narrows 'for every input' (looked for: loops, veiled, ifaces, maps, wideKeys, modest, calm, conditions, laid).
  DERIVED. THE GIVEN ROWS OF THIS SEAT. 7 by the template 'for every input the law returns true; each argument reads behind the call as it read before'; 0 by the template 'total and deterministic' (their statements: YtpaddiggieklfaaTotals.lean).
  GIVEN WITH THE SEED: the statements are not yours to turn. If you find one false, say at which input.
  Laid BY PROGRAM, IN A SANDBOX (cutbox-rows.mjs): the forced cells as the released guide's own fill.sh prints them over the translation 6fe076d03db11aa5… (all of the seat's roots in one cut). By AI agents, Wed Nov 11 2026. No macro, syntax, notation, axiom, sorry.
-/
import Derived.Test.YtpaddiggieklfaaChecked
import GoSem.Claim
import GoSem.ClaimJoined
import GoSem.ClaimMapViews
import Derived.JoinedTies
import Derived.KernelRfl
namespace Go.Proofs.Ytpaddiggieklfaa
/- THE CELL 'sum', in the pinned program and in every row, IS THE sha256 OF THE DUMP (.gsa) THAT YtpaddiggieklfaaProg.lean LOADS. Nothing in Lean hashes anything: it is a label: what it is worth is what the hold of that sum in a sandbox is worth. -/
noncomputable def Try.pinned : Pinned := { name := "ytpaddiggieklfaa", sum := "6fe076d03db11aa549c131401785a22317c12b3d8e61d6b18af123732f9f9072", checked := Try.checked }
namespace Rows
def none {H : Type} : Left H := { results := [], args := [] }

/-- 'almanaclaw1.IntsFields': WHATEVER THE INPUT: true; the input reads as it did. -/
def intsFieldsSpec : ChangeSpec := { name := "intsFields", fn := fun _ => fun
  | [d1, d2, d3, d4] => { results := [.lit (.bool true)], args := [d1, d2, d3, d4] }
  | _ => none }
def intsFieldsRow : OpenClaim := { program := "ytpaddiggieklfaa", sum := "6fe076d03db11aa549c131401785a22317c12b3d8e61d6b18af123732f9f9072", func := "almanac/almanaclaw1.IntsFields", spec := "intsFields", apart := false }
def IntsFieldsSaid : Prop := intsFieldsRow.holds Try.pinned (OpenSpec.ofChange intsFieldsSpec)

/-- ITS FALSE NEIGHBOUR: 'it returns false'. Refute it at one input. -/
def intsFieldsWrong : ChangeSpec := { name := "intsFields", fn := fun _ => fun
  | [d1, d2, d3, d4] => { results := [.lit (.bool false)], args := [d1, d2, d3, d4] }
  | _ => none }
def IntsFieldsWrongFalsely : Prop := intsFieldsRow.holds Try.pinned (OpenSpec.ofChange intsFieldsWrong)

/-- 'almanaclaw1.IntsUp': WHATEVER THE INPUT: true; the input reads as it did. -/
def intsUpSpec : ChangeSpec := { name := "intsUp", fn := fun _ => fun
  | [d1, d2] => { results := [.lit (.bool true)], args := [d1, d2] }
  | _ => none }
def intsUpRow : OpenClaim := { program := "ytpaddiggieklfaa", sum := "6fe076d03db11aa549c131401785a22317c12b3d8e61d6b18af123732f9f9072", func := "almanac/almanaclaw1.IntsUp", spec := "intsUp", apart := false }
def IntsUpSaid : Prop := intsUpRow.holds Try.pinned (OpenSpec.ofChange intsUpSpec)

/-- ITS FALSE NEIGHBOUR: 'it returns false'. Refute it at one input. -/
def intsUpWrong : ChangeSpec := { name := "intsUp", fn := fun _ => fun
  | [d1, d2] => { results := [.lit (.bool false)], args := [d1, d2] }
  | _ => none }
def IntsUpWrongFalsely : Prop := intsUpRow.holds Try.pinned (OpenSpec.ofChange intsUpWrong)

/-- 'almanaclaw1.IntsNarrow': WHATEVER THE INPUT: true; the input reads as it did. -/
def intsNarrowSpec : ChangeSpec := { name := "intsNarrow", fn := fun _ => fun
  | [d] => { results := [.lit (.bool true)], args := [d] }
  | _ => none }
def intsNarrowRow : OpenClaim := { program := "ytpaddiggieklfaa", sum := "6fe076d03db11aa549c131401785a22317c12b3d8e61d6b18af123732f9f9072", func := "almanac/almanaclaw1.IntsNarrow", spec := "intsNarrow", apart := false }
def IntsNarrowSaid : Prop := intsNarrowRow.holds Try.pinned (OpenSpec.ofChange intsNarrowSpec)

/-- ITS FALSE NEIGHBOUR: 'it returns false'. Refute it at one input. -/
def intsNarrowWrong : ChangeSpec := { name := "intsNarrow", fn := fun _ => fun
  | [d] => { results := [.lit (.bool false)], args := [d] }
  | _ => none }
def IntsNarrowWrongFalsely : Prop := intsNarrowRow.holds Try.pinned (OpenSpec.ofChange intsNarrowWrong)

/-- 'almanaclaw1.IntsSigns': WHATEVER THE INPUT: true; the input reads as it did. -/
def intsSignsSpec : ChangeSpec := { name := "intsSigns", fn := fun _ => fun
  | [d1, d2] => { results := [.lit (.bool true)], args := [d1, d2] }
  | _ => none }
def intsSignsRow : OpenClaim := { program := "ytpaddiggieklfaa", sum := "6fe076d03db11aa549c131401785a22317c12b3d8e61d6b18af123732f9f9072", func := "almanac/almanaclaw1.IntsSigns", spec := "intsSigns", apart := false }
def IntsSignsSaid : Prop := intsSignsRow.holds Try.pinned (OpenSpec.ofChange intsSignsSpec)

/-- ITS FALSE NEIGHBOUR: 'it returns false'. Refute it at one input. -/
def intsSignsWrong : ChangeSpec := { name := "intsSigns", fn := fun _ => fun
  | [d1, d2] => { results := [.lit (.bool false)], args := [d1, d2] }
  | _ => none }
def IntsSignsWrongFalsely : Prop := intsSignsRow.holds Try.pinned (OpenSpec.ofChange intsSignsWrong)

/-- 'almanaclaw1.IntsVars': WHATEVER THE INPUT: true; the input reads as it did. -/
def intsVarsSpec : ChangeSpec := { name := "intsVars", fn := fun _ => fun
  | [d1, d2] => { results := [.lit (.bool true)], args := [d1, d2] }
  | _ => none }
def intsVarsRow : OpenClaim := { program := "ytpaddiggieklfaa", sum := "6fe076d03db11aa549c131401785a22317c12b3d8e61d6b18af123732f9f9072", func := "almanac/almanaclaw1.IntsVars", spec := "intsVars", apart := false }
def IntsVarsSaid : Prop := intsVarsRow.holds Try.pinned (OpenSpec.ofChange intsVarsSpec)

/-- ITS FALSE NEIGHBOUR: 'it returns false'. Refute it at one input. -/
def intsVarsWrong : ChangeSpec := { name := "intsVars", fn := fun _ => fun
  | [d1, d2] => { results := [.lit (.bool false)], args := [d1, d2] }
  | _ => none }
def IntsVarsWrongFalsely : Prop := intsVarsRow.holds Try.pinned (OpenSpec.ofChange intsVarsWrong)

/-- 'almanaclaw1.IntsBytes': WHATEVER THE INPUT: true; the input reads as it did. -/
def intsBytesSpec : ChangeSpec := { name := "intsBytes", fn := fun _ => fun
  | [d1, d2, d3, d4, d5, d6] => { results := [.lit (.bool true)], args := [d1, d2, d3, d4, d5, d6] }
  | _ => none }
def intsBytesRow : OpenClaim := { program := "ytpaddiggieklfaa", sum := "6fe076d03db11aa549c131401785a22317c12b3d8e61d6b18af123732f9f9072", func := "almanac/almanaclaw1.IntsBytes", spec := "intsBytes", apart := false }
def IntsBytesSaid : Prop := intsBytesRow.holds Try.pinned (OpenSpec.ofChange intsBytesSpec)

/-- ITS FALSE NEIGHBOUR: 'it returns false'. Refute it at one input. -/
def intsBytesWrong : ChangeSpec := { name := "intsBytes", fn := fun _ => fun
  | [d1, d2, d3, d4, d5, d6] => { results := [.lit (.bool false)], args := [d1, d2, d3, d4, d5, d6] }
  | _ => none }
def IntsBytesWrongFalsely : Prop := intsBytesRow.holds Try.pinned (OpenSpec.ofChange intsBytesWrong)

/-- 'almanaclaw1.IntsBack': WHATEVER THE INPUT: true; the input reads as it did. -/
def intsBackSpec : ChangeSpec := { name := "intsBack", fn := fun _ => fun
  | [d1, d2, d3, d4] => { results := [.lit (.bool true)], args := [d1, d2, d3, d4] }
  | _ => none }
def intsBackRow : OpenClaim := { program := "ytpaddiggieklfaa", sum := "6fe076d03db11aa549c131401785a22317c12b3d8e61d6b18af123732f9f9072", func := "almanac/almanaclaw1.IntsBack", spec := "intsBack", apart := false }
def IntsBackSaid : Prop := intsBackRow.holds Try.pinned (OpenSpec.ofChange intsBackSpec)

/-- ITS FALSE NEIGHBOUR: 'it returns false'. Refute it at one input. -/
def intsBackWrong : ChangeSpec := { name := "intsBack", fn := fun _ => fun
  | [d1, d2, d3, d4] => { results := [.lit (.bool false)], args := [d1, d2, d3, d4] }
  | _ => none }
def IntsBackWrongFalsely : Prop := intsBackRow.holds Try.pinned (OpenSpec.ofChange intsBackWrong)

/- THE SECOND FORM. 'bulk': how many values and letters a reading holds, each counted each time it is reached (what is shared counts as often as it is met; a slice's spare places count too). A statement '..UptoSaid' is the law's where the arguments, and the package variables that the reading takes, are together of bulk at most 1048576: NARROWER than '..Said'. Prove '..Said' where nothing that the law and all that it calls make is longer than what came in: it says more and counts as full. Else prove '..UptoSaid'. A law counts once. -/
mutual
def uptoBulk {H : Type} : DataW H → Nat
  | .lit (.string bytes) => bytes.length + 1
  | .lit _ => 1
  | .nil => 1
  | .ptr d => uptoBulk d + 1
  | .slice elems spare => uptoBulkAll elems + uptoBulkAll spare + 1
  | .agg parts => uptoBulkAll parts + 1
  | .iface _ d => uptoBulk d + 1
  | .map entries => uptoBulkEntries entries + 1
  | .held _ => 1
def uptoBulkAll {H : Type} : List (DataW H) → Nat
  | [] => 0
  | d :: r => uptoBulk d + uptoBulkAll r
def uptoBulkEntries {H : Type} : List (Lit × DataW H) → Nat
  | [] => 0
  | x :: r => uptoBulkEntry x + uptoBulkEntries r
def uptoBulkEntry {H : Type} : Lit × DataW H → Nat
  | (.string bytes, d) => bytes.length + uptoBulk d + 1
  | (_, d) => uptoBulk d + 1
 end
def uptoSmall : (H : Type) → List (DataW H) → Bool := fun _ ds => decide (uptoBulkAll ds ≤ 1048576)
def OpenSpec.upto (s : _root_.Go.ChangeSpec) : _root_.Go.OpenSpec := { _root_.Go.OpenSpec.ofChange s with cond := some uptoSmall }

/-- 'almanaclaw1.IntsFields', WHERE WHAT IT READS IS OF BULK AT MOST 1048576: true; the input reads as it did. -/
def intsFieldsUptoRow : OpenClaim := { program := "ytpaddiggieklfaa", sum := "6fe076d03db11aa549c131401785a22317c12b3d8e61d6b18af123732f9f9072", func := "almanac/almanaclaw1.IntsFields", spec := "intsFields", apart := false, narrowed := true }
def IntsFieldsUptoSaid : Prop := intsFieldsUptoRow.holds Try.pinned (OpenSpec.upto intsFieldsSpec)

/-- 'almanaclaw1.IntsUp', WHERE WHAT IT READS IS OF BULK AT MOST 1048576: true; the input reads as it did. -/
def intsUpUptoRow : OpenClaim := { program := "ytpaddiggieklfaa", sum := "6fe076d03db11aa549c131401785a22317c12b3d8e61d6b18af123732f9f9072", func := "almanac/almanaclaw1.IntsUp", spec := "intsUp", apart := false, narrowed := true }
def IntsUpUptoSaid : Prop := intsUpUptoRow.holds Try.pinned (OpenSpec.upto intsUpSpec)

/-- 'almanaclaw1.IntsNarrow', WHERE WHAT IT READS IS OF BULK AT MOST 1048576: true; the input reads as it did. -/
def intsNarrowUptoRow : OpenClaim := { program := "ytpaddiggieklfaa", sum := "6fe076d03db11aa549c131401785a22317c12b3d8e61d6b18af123732f9f9072", func := "almanac/almanaclaw1.IntsNarrow", spec := "intsNarrow", apart := false, narrowed := true }
def IntsNarrowUptoSaid : Prop := intsNarrowUptoRow.holds Try.pinned (OpenSpec.upto intsNarrowSpec)

/-- 'almanaclaw1.IntsSigns', WHERE WHAT IT READS IS OF BULK AT MOST 1048576: true; the input reads as it did. -/
def intsSignsUptoRow : OpenClaim := { program := "ytpaddiggieklfaa", sum := "6fe076d03db11aa549c131401785a22317c12b3d8e61d6b18af123732f9f9072", func := "almanac/almanaclaw1.IntsSigns", spec := "intsSigns", apart := false, narrowed := true }
def IntsSignsUptoSaid : Prop := intsSignsUptoRow.holds Try.pinned (OpenSpec.upto intsSignsSpec)

/-- 'almanaclaw1.IntsVars', WHERE WHAT IT READS IS OF BULK AT MOST 1048576: true; the input reads as it did. -/
def intsVarsUptoRow : OpenClaim := { program := "ytpaddiggieklfaa", sum := "6fe076d03db11aa549c131401785a22317c12b3d8e61d6b18af123732f9f9072", func := "almanac/almanaclaw1.IntsVars", spec := "intsVars", apart := false, narrowed := true }
def IntsVarsUptoSaid : Prop := intsVarsUptoRow.holds Try.pinned (OpenSpec.upto intsVarsSpec)

/-- 'almanaclaw1.IntsBytes', WHERE WHAT IT READS IS OF BULK AT MOST 1048576: true; the input reads as it did. -/
def intsBytesUptoRow : OpenClaim := { program := "ytpaddiggieklfaa", sum := "6fe076d03db11aa549c131401785a22317c12b3d8e61d6b18af123732f9f9072", func := "almanac/almanaclaw1.IntsBytes", spec := "intsBytes", apart := false, narrowed := true }
def IntsBytesUptoSaid : Prop := intsBytesUptoRow.holds Try.pinned (OpenSpec.upto intsBytesSpec)

/-- 'almanaclaw1.IntsBack', WHERE WHAT IT READS IS OF BULK AT MOST 1048576: true; the input reads as it did. -/
def intsBackUptoRow : OpenClaim := { program := "ytpaddiggieklfaa", sum := "6fe076d03db11aa549c131401785a22317c12b3d8e61d6b18af123732f9f9072", func := "almanac/almanaclaw1.IntsBack", spec := "intsBack", apart := false, narrowed := true }
def IntsBackUptoSaid : Prop := intsBackUptoRow.holds Try.pinned (OpenSpec.upto intsBackSpec)

end Rows
end Go.Proofs.Ytpaddiggieklfaa
