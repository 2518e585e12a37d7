/-
  No cell of these rows narrows 'for every input' (looked for: loops, veiled, ifaces, maps, wideKeys, modest, calm, conditions, laid).
  DERIVED. THE GIVEN ROWS OF THIS SEAT. 5 by the template 'for every input the law returns true; each argument reads behind the call as it read before'; 0 by the template 'total and deterministic' (their statements: YtfoabnoolmeoiaaTotals.lean).
  GIVEN WITH THE SEED: the statements are not yours to turn. If you find one false, say at which input.
  Laid BY PROGRAM, IN A SANDBOX (cutbox-rows.mjs): the forced cells as the released guide's own fill.sh prints them over the translation ca86bd988812948c… (all of the seat's roots in one cut). By AI agents, Wed Nov 11 2026. No macro, syntax, notation, axiom, sorry.
-/
import Derived.Test.YtfoabnoolmeoiaaChecked
import GoSem.Claim
import GoSem.ClaimJoined
import GoSem.ClaimMapViews
import Derived.JoinedTies
import Derived.KernelRfl
namespace Go.Proofs.Ytfoabnoolmeoiaa
/- THE CELL 'sum', in the pinned program and in every row, IS THE sha256 OF THE DUMP (.gsa) THAT YtfoabnoolmeoiaaProg.lean LOADS. Nothing in Lean hashes anything: it is a label: what it is worth is what the hold of that sum in a sandbox is worth. -/
noncomputable def Try.pinned : Pinned := { name := "ytfoabnoolmeoiaa", sum := "ca86bd988812948c39c169af7e248a2afa6dfe7215f66b8418baf52adcb45691", checked := Try.checked }
namespace Rows
def none {H : Type} : Left H := { results := [], args := [] }

/-- 'almanaclaw4.LzJoins': WHATEVER THE INPUT: true; the input reads as it did. -/
def lzJoinsSpec : ChangeSpec := { name := "lzJoins", fn := fun _ => fun
  | [d1, d2] => { results := [.lit (.bool true)], args := [d1, d2] }
  | _ => none }
def lzJoinsRow : OpenClaim := { program := "ytfoabnoolmeoiaa", sum := "ca86bd988812948c39c169af7e248a2afa6dfe7215f66b8418baf52adcb45691", func := "almanac/almanaclaw4.LzJoins", spec := "lzJoins", apart := false }
def LzJoinsSaid : Prop := lzJoinsRow.holds Try.pinned (OpenSpec.ofChange lzJoinsSpec)

/-- ITS FALSE NEIGHBOUR: 'it returns false'. Refute it at one input. -/
def lzJoinsWrong : ChangeSpec := { name := "lzJoins", fn := fun _ => fun
  | [d1, d2] => { results := [.lit (.bool false)], args := [d1, d2] }
  | _ => none }
def LzJoinsWrongFalsely : Prop := lzJoinsRow.holds Try.pinned (OpenSpec.ofChange lzJoinsWrong)

/-- 'almanaclaw4.LzMost': WHATEVER THE INPUT: true; the input reads as it did. -/
def lzMostSpec : ChangeSpec := { name := "lzMost", fn := fun _ => fun
  | [d1, d2] => { results := [.lit (.bool true)], args := [d1, d2] }
  | _ => none }
def lzMostRow : OpenClaim := { program := "ytfoabnoolmeoiaa", sum := "ca86bd988812948c39c169af7e248a2afa6dfe7215f66b8418baf52adcb45691", func := "almanac/almanaclaw4.LzMost", spec := "lzMost", apart := false }
def LzMostSaid : Prop := lzMostRow.holds Try.pinned (OpenSpec.ofChange lzMostSpec)

/-- ITS FALSE NEIGHBOUR: 'it returns false'. Refute it at one input. -/
def lzMostWrong : ChangeSpec := { name := "lzMost", fn := fun _ => fun
  | [d1, d2] => { results := [.lit (.bool false)], args := [d1, d2] }
  | _ => none }
def LzMostWrongFalsely : Prop := lzMostRow.holds Try.pinned (OpenSpec.ofChange lzMostWrong)

/-- 'almanaclaw4.LzReads': WHATEVER THE INPUT: true; the input reads as it did. -/
def lzReadsSpec : ChangeSpec := { name := "lzReads", fn := fun _ => fun
  | [d1, d2] => { results := [.lit (.bool true)], args := [d1, d2] }
  | _ => none }
def lzReadsRow : OpenClaim := { program := "ytfoabnoolmeoiaa", sum := "ca86bd988812948c39c169af7e248a2afa6dfe7215f66b8418baf52adcb45691", func := "almanac/almanaclaw4.LzReads", spec := "lzReads", apart := false }
def LzReadsSaid : Prop := lzReadsRow.holds Try.pinned (OpenSpec.ofChange lzReadsSpec)

/-- ITS FALSE NEIGHBOUR: 'it returns false'. Refute it at one input. -/
def lzReadsWrong : ChangeSpec := { name := "lzReads", fn := fun _ => fun
  | [d1, d2] => { results := [.lit (.bool false)], args := [d1, d2] }
  | _ => none }
def LzReadsWrongFalsely : Prop := lzReadsRow.holds Try.pinned (OpenSpec.ofChange lzReadsWrong)

/-- 'almanaclaw4.LzBack': WHATEVER THE INPUT: true; the input reads as it did. -/
def lzBackSpec : ChangeSpec := { name := "lzBack", fn := fun _ => fun
  | [d] => { results := [.lit (.bool true)], args := [d] }
  | _ => none }
def lzBackRow : OpenClaim := { program := "ytfoabnoolmeoiaa", sum := "ca86bd988812948c39c169af7e248a2afa6dfe7215f66b8418baf52adcb45691", func := "almanac/almanaclaw4.LzBack", spec := "lzBack", unfollowed := true, recurses := true, apart := false }
def LzBackSaid : Prop := lzBackRow.holds Try.pinned (OpenSpec.ofChange lzBackSpec)

/-- ITS FALSE NEIGHBOUR: 'it returns false'. Refute it at one input. -/
def lzBackWrong : ChangeSpec := { name := "lzBack", fn := fun _ => fun
  | [d] => { results := [.lit (.bool false)], args := [d] }
  | _ => none }
def LzBackWrongFalsely : Prop := lzBackRow.holds Try.pinned (OpenSpec.ofChange lzBackWrong)

/-- 'almanaclaw4.LzShort': WHATEVER THE INPUT: true; the input reads as it did. -/
def lzShortSpec : ChangeSpec := { name := "lzShort", fn := fun _ => fun
  | [d1, d2, d3] => { results := [.lit (.bool true)], args := [d1, d2, d3] }
  | _ => none }
def lzShortRow : OpenClaim := { program := "ytfoabnoolmeoiaa", sum := "ca86bd988812948c39c169af7e248a2afa6dfe7215f66b8418baf52adcb45691", func := "almanac/almanaclaw4.LzShort", spec := "lzShort", unfollowed := true, recurses := true, apart := false }
def LzShortSaid : Prop := lzShortRow.holds Try.pinned (OpenSpec.ofChange lzShortSpec)

/-- ITS FALSE NEIGHBOUR: 'it returns false'. Refute it at one input. -/
def lzShortWrong : ChangeSpec := { name := "lzShort", fn := fun _ => fun
  | [d1, d2, d3] => { results := [.lit (.bool false)], args := [d1, d2, d3] }
  | _ => none }
def LzShortWrongFalsely : Prop := lzShortRow.holds Try.pinned (OpenSpec.ofChange lzShortWrong)

/- THE SECOND FORM. 'bulk': how many values and letters a reading holds, each counted each time it is reached (what is shared counts as often as it is met; a slice's spare places count too). A statement '..UptoSaid' is the law's where the arguments, and the package variables that the reading takes, are together of bulk at most 1048576: NARROWER than '..Said'. Prove '..Said' where nothing that the law and all that it calls make is longer than what came in: it says more and counts as full. Else prove '..UptoSaid'. A law counts once. -/
mutual
def uptoBulk {H : Type} : DataW H → Nat
  | .lit (.string bytes) => bytes.length + 1
  | .lit _ => 1
  | .nil => 1
  | .ptr d => uptoBulk d + 1
  | .slice elems spare => uptoBulkAll elems + uptoBulkAll spare + 1
  | .agg parts => uptoBulkAll parts + 1
  | .iface _ d => uptoBulk d + 1
  | .map entries => uptoBulkEntries entries + 1
  | .held _ => 1
def uptoBulkAll {H : Type} : List (DataW H) → Nat
  | [] => 0
  | d :: r => uptoBulk d + uptoBulkAll r
def uptoBulkEntries {H : Type} : List (Lit × DataW H) → Nat
  | [] => 0
  | x :: r => uptoBulkEntry x + uptoBulkEntries r
def uptoBulkEntry {H : Type} : Lit × DataW H → Nat
  | (.string bytes, d) => bytes.length + uptoBulk d + 1
  | (_, d) => uptoBulk d + 1
 end
def uptoSmall : (H : Type) → List (DataW H) → Bool := fun _ ds => decide (uptoBulkAll ds ≤ 1048576)
def OpenSpec.upto (s : _root_.Go.ChangeSpec) : _root_.Go.OpenSpec := { _root_.Go.OpenSpec.ofChange s with cond := some uptoSmall }

/-- 'almanaclaw4.LzJoins', WHERE WHAT IT READS IS OF BULK AT MOST 1048576: true; the input reads as it did. -/
def lzJoinsUptoRow : OpenClaim := { program := "ytfoabnoolmeoiaa", sum := "ca86bd988812948c39c169af7e248a2afa6dfe7215f66b8418baf52adcb45691", func := "almanac/almanaclaw4.LzJoins", spec := "lzJoins", apart := false, narrowed := true }
def LzJoinsUptoSaid : Prop := lzJoinsUptoRow.holds Try.pinned (OpenSpec.upto lzJoinsSpec)

/-- 'almanaclaw4.LzMost', WHERE WHAT IT READS IS OF BULK AT MOST 1048576: true; the input reads as it did. -/
def lzMostUptoRow : OpenClaim := { program := "ytfoabnoolmeoiaa", sum := "ca86bd988812948c39c169af7e248a2afa6dfe7215f66b8418baf52adcb45691", func := "almanac/almanaclaw4.LzMost", spec := "lzMost", apart := false, narrowed := true }
def LzMostUptoSaid : Prop := lzMostUptoRow.holds Try.pinned (OpenSpec.upto lzMostSpec)

/-- 'almanaclaw4.LzReads', WHERE WHAT IT READS IS OF BULK AT MOST 1048576: true; the input reads as it did. -/
def lzReadsUptoRow : OpenClaim := { program := "ytfoabnoolmeoiaa", sum := "ca86bd988812948c39c169af7e248a2afa6dfe7215f66b8418baf52adcb45691", func := "almanac/almanaclaw4.LzReads", spec := "lzReads", apart := false, narrowed := true }
def LzReadsUptoSaid : Prop := lzReadsUptoRow.holds Try.pinned (OpenSpec.upto lzReadsSpec)

/-- 'almanaclaw4.LzBack', WHERE WHAT IT READS IS OF BULK AT MOST 1048576: true; the input reads as it did. -/
def lzBackUptoRow : OpenClaim := { program := "ytfoabnoolmeoiaa", sum := "ca86bd988812948c39c169af7e248a2afa6dfe7215f66b8418baf52adcb45691", func := "almanac/almanaclaw4.LzBack", spec := "lzBack", unfollowed := true, recurses := true, apart := false, narrowed := true }
def LzBackUptoSaid : Prop := lzBackUptoRow.holds Try.pinned (OpenSpec.upto lzBackSpec)

/-- 'almanaclaw4.LzShort', WHERE WHAT IT READS IS OF BULK AT MOST 1048576: true; the input reads as it did. -/
def lzShortUptoRow : OpenClaim := { program := "ytfoabnoolmeoiaa", sum := "ca86bd988812948c39c169af7e248a2afa6dfe7215f66b8418baf52adcb45691", func := "almanac/almanaclaw4.LzShort", spec := "lzShort", unfollowed := true, recurses := true, apart := false, narrowed := true }
def LzShortUptoSaid : Prop := lzShortUptoRow.holds Try.pinned (OpenSpec.upto lzShortSpec)

end Rows
end Go.Proofs.Ytfoabnoolmeoiaa
