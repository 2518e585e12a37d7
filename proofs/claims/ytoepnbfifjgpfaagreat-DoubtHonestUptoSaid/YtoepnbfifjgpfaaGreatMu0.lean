/- The rules by which a frame's slots are read and written. No program in sight. -/
import Derived.WalkKit
namespace Go.Proofs.YtoepnbfifjgpfaaGreat
open Go.RowKit
theorem cel {w w':World} {a:Addr} {v:Value} (hb:Below w.heap.size w w') (h:w.cell? a=some v):w'.cell? a=some v:=(Below.cell hb (block_lt_of_cell h)).trans h
theorem gv1 {α:Type}:(∀ (x:α) (xs:List α) (d:α),(x :: xs).getD 0 d=x)∧(∀ (x:α) (xs:List α) (n:Nat) (d:α),(x :: xs).getD (n+1) d=xs.getD n d)∧(∀ (xs:Array α) (i:Nat) (d:α),xs.getD i d=(xs[i]?).getD d)∧(∀ (l:List α) (i:Nat),l.toArray[i]?=l[i]?)∧(∀ (a:α) (l:List α),(a :: l)[0]?=some a)∧(∀ (a:α) (l:List α) (i:Nat),(a :: l)[i+1]?=l[i]?)∧∀ (a b:α),(some a).getD b=a:=
 ⟨fun _ _ _=>rfl,fun _ _ _ _=>rfl,fun _ _ _=>Array.getD_eq_getD_getElem? ..,fun _ _=>List.getElem?_toArray ..,fun _ _=>rfl,fun _ _ _=>List.getElem?_cons_succ ..,fun _ _=>rfl⟩
theorem gv2 {α:Type}:(∀ (x:α) (xs:List α) (d:α),(x :: xs).getD 0 d=x)∧(∀ (x:α) (xs:List α) (n:Nat) (d:α),(x :: xs).getD (n+1) d=xs.getD n d)∧(∀ (l:List α) (i:Nat) (a:α),l.toArray.setIfInBounds i a=(l.set i a).toArray)∧(∀ (x a:α) (l:List α),(x :: l).set 0 a=a :: l)∧∀ (x a:α) (l:List α) (n:Nat),(x :: l).set (n+1) a=x :: l.set n a:=
 ⟨fun _ _ _=>rfl,fun _ _ _ _=>rfl,fun _ _ _=>List.setIfInBounds_toArray ..,fun _ _ _=>rfl,fun _ _ _ _=>rfl⟩
end Go.Proofs.YtoepnbfifjgpfaaGreat
