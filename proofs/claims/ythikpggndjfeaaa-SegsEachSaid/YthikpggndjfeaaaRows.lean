/-
  No cell of these rows narrows 'for every input' (looked for: loops, veiled, ifaces, maps, wideKeys, modest, calm, conditions, laid).
  DERIVED. THE GIVEN ROWS OF THIS SEAT. 4 by the template 'for every input the law returns true; each argument reads behind the call as it read before'; 0 by the template 'total and deterministic' (their statements: YthikpggndjfeaaaTotals.lean).
  GIVEN WITH THE SEED: the statements are not yours to turn. If you find one false, say at which input.
  Laid BY PROGRAM, IN A SANDBOX (cutbox-rows.mjs): the forced cells as the released guide's own fill.sh prints them over the translation 31a92b7bb7ce2a78… (all of the seat's roots in one cut). By AI agents, Wed Nov 11 2026. No macro, syntax, notation, axiom, sorry.
-/
import Derived.Test.YthikpggndjfeaaaChecked
import GoSem.Claim
import GoSem.ClaimJoined
import GoSem.ClaimMapViews
import Derived.JoinedTies
import Derived.KernelRfl
namespace Go.Proofs.Ythikpggndjfeaaa
/- THE CELL 'sum', in the pinned program and in every row, IS THE sha256 OF THE DUMP (.gsa) THAT YthikpggndjfeaaaProg.lean LOADS. Nothing in Lean hashes anything: it is a label: what it is worth is what the hold of that sum in a sandbox is worth. -/
noncomputable def Try.pinned : Pinned := { name := "ythikpggndjfeaaa", sum := "31a92b7bb7ce2a789018330e0190b75502e5e88394b53c2719a208d228d0719d", checked := Try.checked }
namespace Rows
def none {H : Type} : Left H := { results := [], args := [] }

/-- 'almanaclaw7.SegsHeld': WHATEVER THE INPUT: true; the input reads as it did. -/
def segsHeldSpec : ChangeSpec := { name := "segsHeld", fn := fun _ => fun
  | [d1, d2, d3, d4] => { results := [.lit (.bool true)], args := [d1, d2, d3, d4] }
  | _ => none }
def segsHeldRow : OpenClaim := { program := "ythikpggndjfeaaa", sum := "31a92b7bb7ce2a789018330e0190b75502e5e88394b53c2719a208d228d0719d", func := "almanac/almanaclaw7.SegsHeld", spec := "segsHeld", unfollowed := true, recurses := true, plainKeys := false, apart := false }
def SegsHeldSaid : Prop := segsHeldRow.holds Try.pinned (OpenSpec.ofChange segsHeldSpec)

/-- ITS FALSE NEIGHBOUR: 'it returns false'. Refute it at one input. -/
def segsHeldWrong : ChangeSpec := { name := "segsHeld", fn := fun _ => fun
  | [d1, d2, d3, d4] => { results := [.lit (.bool false)], args := [d1, d2, d3, d4] }
  | _ => none }
def SegsHeldWrongFalsely : Prop := segsHeldRow.holds Try.pinned (OpenSpec.ofChange segsHeldWrong)

/-- 'almanaclaw7.SegsTakes': WHATEVER THE INPUT: true; the input reads as it did. -/
def segsTakesSpec : ChangeSpec := { name := "segsTakes", fn := fun _ => fun
  | [d] => { results := [.lit (.bool true)], args := [d] }
  | _ => none }
def segsTakesRow : OpenClaim := { program := "ythikpggndjfeaaa", sum := "31a92b7bb7ce2a789018330e0190b75502e5e88394b53c2719a208d228d0719d", func := "almanac/almanaclaw7.SegsTakes", spec := "segsTakes", unfollowed := true, recurses := true, plainKeys := false, apart := false }
def SegsTakesSaid : Prop := segsTakesRow.holds Try.pinned (OpenSpec.ofChange segsTakesSpec)

/-- ITS FALSE NEIGHBOUR: 'it returns false'. Refute it at one input. -/
def segsTakesWrong : ChangeSpec := { name := "segsTakes", fn := fun _ => fun
  | [d] => { results := [.lit (.bool false)], args := [d] }
  | _ => none }
def SegsTakesWrongFalsely : Prop := segsTakesRow.holds Try.pinned (OpenSpec.ofChange segsTakesWrong)

/-- 'almanaclaw7.SegsEach': WHATEVER THE INPUT: true; the input reads as it did. -/
def segsEachSpec : ChangeSpec := { name := "segsEach", fn := fun _ => fun
  | [d1, d2, d3] => { results := [.lit (.bool true)], args := [d1, d2, d3] }
  | _ => none }
def segsEachRow : OpenClaim := { program := "ythikpggndjfeaaa", sum := "31a92b7bb7ce2a789018330e0190b75502e5e88394b53c2719a208d228d0719d", func := "almanac/almanaclaw7.SegsEach", spec := "segsEach", unfollowed := true, recurses := true, plainKeys := false, apart := false }
def SegsEachSaid : Prop := segsEachRow.holds Try.pinned (OpenSpec.ofChange segsEachSpec)

/-- ITS FALSE NEIGHBOUR: 'it returns false'. Refute it at one input. -/
def segsEachWrong : ChangeSpec := { name := "segsEach", fn := fun _ => fun
  | [d1, d2, d3] => { results := [.lit (.bool false)], args := [d1, d2, d3] }
  | _ => none }
def SegsEachWrongFalsely : Prop := segsEachRow.holds Try.pinned (OpenSpec.ofChange segsEachWrong)

/-- 'almanaclaw7.SegsPlays': WHATEVER THE INPUT: true; the input reads as it did. -/
def segsPlaysSpec : ChangeSpec := { name := "segsPlays", fn := fun _ => fun
  | [d1, d2, d3, d4] => { results := [.lit (.bool true)], args := [d1, d2, d3, d4] }
  | _ => none }
def segsPlaysRow : OpenClaim := { program := "ythikpggndjfeaaa", sum := "31a92b7bb7ce2a789018330e0190b75502e5e88394b53c2719a208d228d0719d", func := "almanac/almanaclaw7.SegsPlays", spec := "segsPlays", unfollowed := true, recurses := true, plainKeys := false, apart := false }
def SegsPlaysSaid : Prop := segsPlaysRow.holds Try.pinned (OpenSpec.ofChange segsPlaysSpec)

/-- ITS FALSE NEIGHBOUR: 'it returns false'. Refute it at one input. -/
def segsPlaysWrong : ChangeSpec := { name := "segsPlays", fn := fun _ => fun
  | [d1, d2, d3, d4] => { results := [.lit (.bool false)], args := [d1, d2, d3, d4] }
  | _ => none }
def SegsPlaysWrongFalsely : Prop := segsPlaysRow.holds Try.pinned (OpenSpec.ofChange segsPlaysWrong)

/- THE SECOND FORM. 'bulk': how many values and letters a reading holds, each counted each time it is reached (what is shared counts as often as it is met; a slice's spare places count too). A statement '..UptoSaid' is the law's where the arguments, and the package variables that the reading takes, are together of bulk at most 1048576: NARROWER than '..Said'. Prove '..Said' where nothing that the law and all that it calls make is longer than what came in: it says more and counts as full. Else prove '..UptoSaid'. A law counts once. -/
mutual
def uptoBulk {H : Type} : DataW H → Nat
  | .lit (.string bytes) => bytes.length + 1
  | .lit _ => 1
  | .nil => 1
  | .ptr d => uptoBulk d + 1
  | .slice elems spare => uptoBulkAll elems + uptoBulkAll spare + 1
  | .agg parts => uptoBulkAll parts + 1
  | .iface _ d => uptoBulk d + 1
  | .map entries => uptoBulkEntries entries + 1
  | .held _ => 1
def uptoBulkAll {H : Type} : List (DataW H) → Nat
  | [] => 0
  | d :: r => uptoBulk d + uptoBulkAll r
def uptoBulkEntries {H : Type} : List (Lit × DataW H) → Nat
  | [] => 0
  | x :: r => uptoBulkEntry x + uptoBulkEntries r
def uptoBulkEntry {H : Type} : Lit × DataW H → Nat
  | (.string bytes, d) => bytes.length + uptoBulk d + 1
  | (_, d) => uptoBulk d + 1
 end
def uptoSmall : (H : Type) → List (DataW H) → Bool := fun _ ds => decide (uptoBulkAll ds ≤ 1048576)
def OpenSpec.upto (s : _root_.Go.ChangeSpec) : _root_.Go.OpenSpec := { _root_.Go.OpenSpec.ofChange s with cond := some uptoSmall }

/-- 'almanaclaw7.SegsHeld', WHERE WHAT IT READS IS OF BULK AT MOST 1048576: true; the input reads as it did. -/
def segsHeldUptoRow : OpenClaim := { program := "ythikpggndjfeaaa", sum := "31a92b7bb7ce2a789018330e0190b75502e5e88394b53c2719a208d228d0719d", func := "almanac/almanaclaw7.SegsHeld", spec := "segsHeld", unfollowed := true, recurses := true, plainKeys := false, apart := false, narrowed := true }
def SegsHeldUptoSaid : Prop := segsHeldUptoRow.holds Try.pinned (OpenSpec.upto segsHeldSpec)

/-- 'almanaclaw7.SegsTakes', WHERE WHAT IT READS IS OF BULK AT MOST 1048576: true; the input reads as it did. -/
def segsTakesUptoRow : OpenClaim := { program := "ythikpggndjfeaaa", sum := "31a92b7bb7ce2a789018330e0190b75502e5e88394b53c2719a208d228d0719d", func := "almanac/almanaclaw7.SegsTakes", spec := "segsTakes", unfollowed := true, recurses := true, plainKeys := false, apart := false, narrowed := true }
def SegsTakesUptoSaid : Prop := segsTakesUptoRow.holds Try.pinned (OpenSpec.upto segsTakesSpec)

/-- 'almanaclaw7.SegsEach', WHERE WHAT IT READS IS OF BULK AT MOST 1048576: true; the input reads as it did. -/
def segsEachUptoRow : OpenClaim := { program := "ythikpggndjfeaaa", sum := "31a92b7bb7ce2a789018330e0190b75502e5e88394b53c2719a208d228d0719d", func := "almanac/almanaclaw7.SegsEach", spec := "segsEach", unfollowed := true, recurses := true, plainKeys := false, apart := false, narrowed := true }
def SegsEachUptoSaid : Prop := segsEachUptoRow.holds Try.pinned (OpenSpec.upto segsEachSpec)

/-- 'almanaclaw7.SegsPlays', WHERE WHAT IT READS IS OF BULK AT MOST 1048576: true; the input reads as it did. -/
def segsPlaysUptoRow : OpenClaim := { program := "ythikpggndjfeaaa", sum := "31a92b7bb7ce2a789018330e0190b75502e5e88394b53c2719a208d228d0719d", func := "almanac/almanaclaw7.SegsPlays", spec := "segsPlays", unfollowed := true, recurses := true, plainKeys := false, apart := false, narrowed := true }
def SegsPlaysUptoSaid : Prop := segsPlaysUptoRow.holds Try.pinned (OpenSpec.upto segsPlaysSpec)

end Rows
end Go.Proofs.Ythikpggndjfeaaa
