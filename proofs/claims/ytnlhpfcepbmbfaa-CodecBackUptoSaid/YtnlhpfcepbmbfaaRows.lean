/-
  No cell of these rows narrows 'for every input' (looked for: loops, veiled, ifaces, maps, wideKeys, modest, calm, conditions, laid).
  DERIVED. THE GIVEN ROWS OF THIS SEAT. 6 by the template 'for every input the law returns true; each argument reads behind the call as it read before'; 0 by the template 'total and deterministic' (their statements: YtnlhpfcepbmbfaaTotals.lean).
  GIVEN WITH THE SEED: the statements are not yours to turn. If you find one false, say at which input.
  Laid BY PROGRAM, IN A SANDBOX (cutbox-rows.mjs): the forced cells as the released guide's own fill.sh prints them over the translation 62936072bd43fbef… (all of the seat's roots in one cut). By AI agents, Wed Nov 11 2026. No macro, syntax, notation, axiom, sorry.
-/
import Derived.Test.YtnlhpfcepbmbfaaChecked
import GoSem.Claim
import GoSem.ClaimJoined
import GoSem.ClaimMapViews
import Derived.JoinedTies
import Derived.KernelRfl
namespace Go.Proofs.Ytnlhpfcepbmbfaa
/- THE CELL 'sum', in the pinned program and in every row, IS THE sha256 OF THE DUMP (.gsa) THAT YtnlhpfcepbmbfaaProg.lean LOADS. Nothing in Lean hashes anything: it is a label: what it is worth is what the hold of that sum in a sandbox is worth. -/
noncomputable def Try.pinned : Pinned := { name := "ytnlhpfcepbmbfaa", sum := "62936072bd43fbefa80bd9dbccb8791d70e4b3677293939b0ae924c7fa18f640", checked := Try.checked }
namespace Rows
def none {H : Type} : Left H := { results := [], args := [] }

/-- 'almanaclaw3.CodecFrames': WHATEVER THE INPUT: true; the input reads as it did. -/
def codecFramesSpec : ChangeSpec := { name := "codecFrames", fn := fun _ => fun
  | [d1, d2, d3] => { results := [.lit (.bool true)], args := [d1, d2, d3] }
  | _ => none }
def codecFramesRow : OpenClaim := { program := "ytnlhpfcepbmbfaa", sum := "62936072bd43fbefa80bd9dbccb8791d70e4b3677293939b0ae924c7fa18f640", func := "almanac/almanaclaw3.CodecFrames", spec := "codecFrames", apart := false }
def CodecFramesSaid : Prop := codecFramesRow.holds Try.pinned (OpenSpec.ofChange codecFramesSpec)

/-- ITS FALSE NEIGHBOUR: 'it returns false'. Refute it at one input. -/
def codecFramesWrong : ChangeSpec := { name := "codecFrames", fn := fun _ => fun
  | [d1, d2, d3] => { results := [.lit (.bool false)], args := [d1, d2, d3] }
  | _ => none }
def CodecFramesWrongFalsely : Prop := codecFramesRow.holds Try.pinned (OpenSpec.ofChange codecFramesWrong)

/-- 'almanaclaw3.CodecBursts': WHATEVER THE INPUT: true; the input reads as it did. -/
def codecBurstsSpec : ChangeSpec := { name := "codecBursts", fn := fun _ => fun
  | [d1, d2, d3, d4, d5] => { results := [.lit (.bool true)], args := [d1, d2, d3, d4, d5] }
  | _ => none }
def codecBurstsRow : OpenClaim := { program := "ytnlhpfcepbmbfaa", sum := "62936072bd43fbefa80bd9dbccb8791d70e4b3677293939b0ae924c7fa18f640", func := "almanac/almanaclaw3.CodecBursts", spec := "codecBursts", apart := false }
def CodecBurstsSaid : Prop := codecBurstsRow.holds Try.pinned (OpenSpec.ofChange codecBurstsSpec)

/-- ITS FALSE NEIGHBOUR: 'it returns false'. Refute it at one input. -/
def codecBurstsWrong : ChangeSpec := { name := "codecBursts", fn := fun _ => fun
  | [d1, d2, d3, d4, d5] => { results := [.lit (.bool false)], args := [d1, d2, d3, d4, d5] }
  | _ => none }
def CodecBurstsWrongFalsely : Prop := codecBurstsRow.holds Try.pinned (OpenSpec.ofChange codecBurstsWrong)

/-- 'almanaclaw3.CodecFronts': WHATEVER THE INPUT: true; the input reads as it did. -/
def codecFrontsSpec : ChangeSpec := { name := "codecFronts", fn := fun _ => fun
  | [d1, d2, d3, d4] => { results := [.lit (.bool true)], args := [d1, d2, d3, d4] }
  | _ => none }
def codecFrontsRow : OpenClaim := { program := "ytnlhpfcepbmbfaa", sum := "62936072bd43fbefa80bd9dbccb8791d70e4b3677293939b0ae924c7fa18f640", func := "almanac/almanaclaw3.CodecFronts", spec := "codecFronts", apart := false }
def CodecFrontsSaid : Prop := codecFrontsRow.holds Try.pinned (OpenSpec.ofChange codecFrontsSpec)

/-- ITS FALSE NEIGHBOUR: 'it returns false'. Refute it at one input. -/
def codecFrontsWrong : ChangeSpec := { name := "codecFronts", fn := fun _ => fun
  | [d1, d2, d3, d4] => { results := [.lit (.bool false)], args := [d1, d2, d3, d4] }
  | _ => none }
def CodecFrontsWrongFalsely : Prop := codecFrontsRow.holds Try.pinned (OpenSpec.ofChange codecFrontsWrong)

/-- 'almanaclaw3.CodecStays': WHATEVER THE INPUT: true; the input reads as it did. -/
def codecStaysSpec : ChangeSpec := { name := "codecStays", fn := fun _ => fun
  | [d1, d2] => { results := [.lit (.bool true)], args := [d1, d2] }
  | _ => none }
def codecStaysRow : OpenClaim := { program := "ytnlhpfcepbmbfaa", sum := "62936072bd43fbefa80bd9dbccb8791d70e4b3677293939b0ae924c7fa18f640", func := "almanac/almanaclaw3.CodecStays", spec := "codecStays", unfollowed := true, recurses := true, apart := false }
def CodecStaysSaid : Prop := codecStaysRow.holds Try.pinned (OpenSpec.ofChange codecStaysSpec)

/-- ITS FALSE NEIGHBOUR: 'it returns false'. Refute it at one input. -/
def codecStaysWrong : ChangeSpec := { name := "codecStays", fn := fun _ => fun
  | [d1, d2] => { results := [.lit (.bool false)], args := [d1, d2] }
  | _ => none }
def CodecStaysWrongFalsely : Prop := codecStaysRow.holds Try.pinned (OpenSpec.ofChange codecStaysWrong)

/-- 'almanaclaw3.CodecRecords': WHATEVER THE INPUT: true; the input reads as it did. -/
def codecRecordsSpec : ChangeSpec := { name := "codecRecords", fn := fun _ => fun
  | [d1, d2, d3] => { results := [.lit (.bool true)], args := [d1, d2, d3] }
  | _ => none }
def codecRecordsRow : OpenClaim := { program := "ytnlhpfcepbmbfaa", sum := "62936072bd43fbefa80bd9dbccb8791d70e4b3677293939b0ae924c7fa18f640", func := "almanac/almanaclaw3.CodecRecords", spec := "codecRecords", unfollowed := true, recurses := true, apart := false }
def CodecRecordsSaid : Prop := codecRecordsRow.holds Try.pinned (OpenSpec.ofChange codecRecordsSpec)

/-- ITS FALSE NEIGHBOUR: 'it returns false'. Refute it at one input. -/
def codecRecordsWrong : ChangeSpec := { name := "codecRecords", fn := fun _ => fun
  | [d1, d2, d3] => { results := [.lit (.bool false)], args := [d1, d2, d3] }
  | _ => none }
def CodecRecordsWrongFalsely : Prop := codecRecordsRow.holds Try.pinned (OpenSpec.ofChange codecRecordsWrong)

/-- 'almanaclaw3.CodecBack': WHATEVER THE INPUT: true; the input reads as it did. -/
def codecBackSpec : ChangeSpec := { name := "codecBack", fn := fun _ => fun
  | [d1, d2, d3, d4] => { results := [.lit (.bool true)], args := [d1, d2, d3, d4] }
  | _ => none }
def codecBackRow : OpenClaim := { program := "ytnlhpfcepbmbfaa", sum := "62936072bd43fbefa80bd9dbccb8791d70e4b3677293939b0ae924c7fa18f640", func := "almanac/almanaclaw3.CodecBack", spec := "codecBack", unfollowed := true, recurses := true, apart := false }
def CodecBackSaid : Prop := codecBackRow.holds Try.pinned (OpenSpec.ofChange codecBackSpec)

/-- ITS FALSE NEIGHBOUR: 'it returns false'. Refute it at one input. -/
def codecBackWrong : ChangeSpec := { name := "codecBack", fn := fun _ => fun
  | [d1, d2, d3, d4] => { results := [.lit (.bool false)], args := [d1, d2, d3, d4] }
  | _ => none }
def CodecBackWrongFalsely : Prop := codecBackRow.holds Try.pinned (OpenSpec.ofChange codecBackWrong)

/- THE SECOND FORM. 'bulk': how many values and letters a reading holds, each counted each time it is reached (what is shared counts as often as it is met; a slice's spare places count too). A statement '..UptoSaid' is the law's where the arguments, and the package variables that the reading takes, are together of bulk at most 1048576: NARROWER than '..Said'. Prove '..Said' where nothing that the law and all that it calls make is longer than what came in: it says more and counts as full. Else prove '..UptoSaid'. A law counts once. -/
mutual
def uptoBulk {H : Type} : DataW H → Nat
  | .lit (.string bytes) => bytes.length + 1
  | .lit _ => 1
  | .nil => 1
  | .ptr d => uptoBulk d + 1
  | .slice elems spare => uptoBulkAll elems + uptoBulkAll spare + 1
  | .agg parts => uptoBulkAll parts + 1
  | .iface _ d => uptoBulk d + 1
  | .map entries => uptoBulkEntries entries + 1
  | .held _ => 1
def uptoBulkAll {H : Type} : List (DataW H) → Nat
  | [] => 0
  | d :: r => uptoBulk d + uptoBulkAll r
def uptoBulkEntries {H : Type} : List (Lit × DataW H) → Nat
  | [] => 0
  | x :: r => uptoBulkEntry x + uptoBulkEntries r
def uptoBulkEntry {H : Type} : Lit × DataW H → Nat
  | (.string bytes, d) => bytes.length + uptoBulk d + 1
  | (_, d) => uptoBulk d + 1
 end
def uptoSmall : (H : Type) → List (DataW H) → Bool := fun _ ds => decide (uptoBulkAll ds ≤ 1048576)
def OpenSpec.upto (s : _root_.Go.ChangeSpec) : _root_.Go.OpenSpec := { _root_.Go.OpenSpec.ofChange s with cond := some uptoSmall }

/-- 'almanaclaw3.CodecFrames', WHERE WHAT IT READS IS OF BULK AT MOST 1048576: true; the input reads as it did. -/
def codecFramesUptoRow : OpenClaim := { program := "ytnlhpfcepbmbfaa", sum := "62936072bd43fbefa80bd9dbccb8791d70e4b3677293939b0ae924c7fa18f640", func := "almanac/almanaclaw3.CodecFrames", spec := "codecFrames", apart := false, narrowed := true }
def CodecFramesUptoSaid : Prop := codecFramesUptoRow.holds Try.pinned (OpenSpec.upto codecFramesSpec)

/-- 'almanaclaw3.CodecBursts', WHERE WHAT IT READS IS OF BULK AT MOST 1048576: true; the input reads as it did. -/
def codecBurstsUptoRow : OpenClaim := { program := "ytnlhpfcepbmbfaa", sum := "62936072bd43fbefa80bd9dbccb8791d70e4b3677293939b0ae924c7fa18f640", func := "almanac/almanaclaw3.CodecBursts", spec := "codecBursts", apart := false, narrowed := true }
def CodecBurstsUptoSaid : Prop := codecBurstsUptoRow.holds Try.pinned (OpenSpec.upto codecBurstsSpec)

/-- 'almanaclaw3.CodecFronts', WHERE WHAT IT READS IS OF BULK AT MOST 1048576: true; the input reads as it did. -/
def codecFrontsUptoRow : OpenClaim := { program := "ytnlhpfcepbmbfaa", sum := "62936072bd43fbefa80bd9dbccb8791d70e4b3677293939b0ae924c7fa18f640", func := "almanac/almanaclaw3.CodecFronts", spec := "codecFronts", apart := false, narrowed := true }
def CodecFrontsUptoSaid : Prop := codecFrontsUptoRow.holds Try.pinned (OpenSpec.upto codecFrontsSpec)

/-- 'almanaclaw3.CodecStays', WHERE WHAT IT READS IS OF BULK AT MOST 1048576: true; the input reads as it did. -/
def codecStaysUptoRow : OpenClaim := { program := "ytnlhpfcepbmbfaa", sum := "62936072bd43fbefa80bd9dbccb8791d70e4b3677293939b0ae924c7fa18f640", func := "almanac/almanaclaw3.CodecStays", spec := "codecStays", unfollowed := true, recurses := true, apart := false, narrowed := true }
def CodecStaysUptoSaid : Prop := codecStaysUptoRow.holds Try.pinned (OpenSpec.upto codecStaysSpec)

/-- 'almanaclaw3.CodecRecords', WHERE WHAT IT READS IS OF BULK AT MOST 1048576: true; the input reads as it did. -/
def codecRecordsUptoRow : OpenClaim := { program := "ytnlhpfcepbmbfaa", sum := "62936072bd43fbefa80bd9dbccb8791d70e4b3677293939b0ae924c7fa18f640", func := "almanac/almanaclaw3.CodecRecords", spec := "codecRecords", unfollowed := true, recurses := true, apart := false, narrowed := true }
def CodecRecordsUptoSaid : Prop := codecRecordsUptoRow.holds Try.pinned (OpenSpec.upto codecRecordsSpec)

/-- 'almanaclaw3.CodecBack', WHERE WHAT IT READS IS OF BULK AT MOST 1048576: true; the input reads as it did. -/
def codecBackUptoRow : OpenClaim := { program := "ytnlhpfcepbmbfaa", sum := "62936072bd43fbefa80bd9dbccb8791d70e4b3677293939b0ae924c7fa18f640", func := "almanac/almanaclaw3.CodecBack", spec := "codecBack", unfollowed := true, recurses := true, apart := false, narrowed := true }
def CodecBackUptoSaid : Prop := codecBackUptoRow.holds Try.pinned (OpenSpec.upto codecBackSpec)

end Rows
end Go.Proofs.Ytnlhpfcepbmbfaa
