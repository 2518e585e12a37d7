/- Several machines in one memory, each in its own blocks. What the doubt holds: its state's block, the machines that may be, in one memory. The doubt's small functions: down, when, Begun, Doubt, Cut, same. The doubt's Begin, Commit. The doubt's Boot: which machine is looked for. The doubt's Do. -/
import Derived.Test.YtoepnbfifjgpfaaGreatMu0
import Derived.Test.YtoepnbfifjgpfaaGreatMp13
import Derived.Test.YtoepnbfifjgpfaaGreatMp9
import Derived.Test.YtoepnbfifjgpfaaGreatMp10
import Derived.Test.YtoepnbfifjgpfaaGreatMp11
import Derived.WalkKit
import Derived.ProofKit
import Derived.BigQuiet
import Derived.Deep.QuietTactic
import Derived.Lib.Hide
import Derived.RegionTactic
import Derived.Great.Walk
import Derived.Test.YtoepnbfifjgpfaaGreatMu3
import Derived.Test.YtoepnbfifjgpfaaGreatMu24
import Derived.Test.YtoepnbfifjgpfaaGreatMu19
namespace Go.Proofs.YtoepnbfifjgpfaaGreat
set_option maxRecDepth 100000
open Go.RowKit
set_option linter.unusedSimpArgs false
theorem RmIn.more2 {w w':World} {No No' Q:Nat→Prop} {h:RmH} {st:Mc} (i:RmIn w No h st) (t:Tn Q w w') (hq:∀ k,Q k→No k∧¬ h.own st k) (h1:∀ k,No k→No' k) (h2:∀ k,No' k→No k∨w.heap.size≤k) (h3:∀ k,No' k→k < w'.heap.size):RmIn w' No' h st:=by
 have q:∀ k,k < w.heap.size→No' k→No k:=fun k hk hn=>by
  rcases h2 k hn with h | h
  ·exact h
  ·omega
 have hm:h.m < w.heap.size:=(Array.getElem?_eq_some_iff.1 i.row).1
 obtain ⟨c,zs,hs⟩:=i.set
 have j:=i.tn t hq
 exact ⟨j.row,j.set,j.prow,fun p hp=>((i.pr p hp).reno h1 q).tn t (fun k hk=>⟨h1 k (hq k hk).1,fun ho=>(hq k hk).2 (.inr (.inr ⟨p,hp,ho⟩))⟩),i.ok,⟨h1 _ i.no.1,h1 _ i.no.2.1,fun hk=>i.no.2.2.1 (q _ hm hk),fun hk=>i.no.2.2.2 (q _ hs.lt.1 hk)⟩,i.ap,i.ne,h3⟩
/-- One of several that lie in one memory. -/
structure Pty where
 own:Nat→Prop
 In:World→(Nat→Prop)→Prop
 more:∀ {w w':World} {No No' Q:Nat→Prop},In w No→Tn Q w w'→(∀ k,Q k→No k∧¬ own k)→(∀ k,No k→No' k)→(∀ k,No' k→No k∨w.heap.size≤k)→(∀ k,No' k→k < w'.heap.size)→In w' No'
 no:∀ {w:World} {No:Nat→Prop},In w No→∀ k,own k→No k
def mcP (h:McH) (st:Mc):Pty:=⟨h.own,fun w No=>McIn w No h st,fun i t hq h1 h2 h3=>i.more t hq h1 h2 h3,fun i=>i.own_no⟩
def rmP (h:RmH) (st:Mc):Pty:=⟨h.own st,fun w No=>RmIn w No h st,fun i t hq h1 h2 h3=>i.more2 t hq h1 h2 h3,fun i=>i.own_no⟩
structure OpsR where
 a:Option Addr
 n:Nat
 L:List OpP
def OpsR.In (o:OpsR) (w:World) (No:Nat→Prop):Prop:=OpsIn w No o.a o.n o.L
structure Ptys (w0 w:World) (PS:List Pty) (O:List OpsR):Prop where
 ex:∃ No:Nat→Prop,(∀ (i:Nat) (P:Pty),PS[i]?=some P→P.In w No)∧(∀ o ∈ O,o.In w No)∧(∀ k,No k→w0.heap.size≤k)∧∀ k,No k→k < w.heap.size
 dj:∀ (i j:Nat) (P Q:Pty),i ≠ j→PS[i]?=some P→PS[j]?=some Q→∀ k,P.own k→¬ Q.own k
 bel:Below w0.heap.size w0 w
section
variable {w0 w w':World} {PS:List Pty} {O:List OpsR}
theorem Ptys.below (s:Ptys w0 w PS O) (b:Below w.heap.size w w'):Ptys w0 w' PS O:=by
 obtain ⟨No,h1,h2,h3,h4⟩:=s.ex
 exact ⟨⟨No,fun i P hP=>P.more (h1 i P hP) (Tn.of (Q:=fun _=>False) b) (fun _ h=>h.elim) (fun _ h=>h) (fun _ h=>.inl h) (fun k hk=>Nat.lt_of_lt_of_le (h4 k hk) b.size),fun o ho=>OpsIn.tn (h2 o ho) (Tn.of (Q:=fun _=>False) b) (fun _ h=>h.elim),h3,fun k hk=>Nat.lt_of_lt_of_le (h4 k hk) b.size⟩,s.dj,s.bel.trans (b.mono s.bel.size)⟩
/-- One of them goes on. -/
theorem Ptys.step (dj:∀ (i j:Nat) (P Q:Pty),i ≠ j→PS[i]?=some P→PS[j]?=some Q→∀ k,P.own k→¬ Q.own k) (bel:Below w0.heap.size w0 w) {No No':Nat→Prop} (h1:∀ (i:Nat) (P:Pty),PS[i]?=some P→P.In w No) (h2:∀ o ∈ O,o.In w No) (h3:∀ k,No k→w0.heap.size≤k) (h4:∀ k,No k→k < w.heap.size)
  (i:Nat) {P P':Pty} (hP:PS[i]?=some P) (hin:P'.In w' No') (t:Tn P.own w w') (hu:∀ k,No k→No' k) (hd:∀ k,No' k→No k∨w.heap.size≤k) (hl:∀ k,No' k→k < w'.heap.size) (ho:∀ k,P'.own k→P.own k∨w.heap.size≤k):Ptys w0 w' (PS.set i P') O:=by
 have hno:=P.no (h1 i P hP)
 have hi:=(List.getElem?_eq_some_iff.1 hP).1
 have hget:∀ (j:Nat) (Q:Pty),(PS.set i P')[j]?=some Q→(j=i∧Q=P')∨(j ≠ i∧PS[j]?=some Q):=fun j Q hQ=>by
  rw [List.getElem?_set] at hQ
  by_cases e:i=j
  ·subst e
   rw [if_pos rfl,if_pos hi] at hQ
   injection hQ with hQ
   exact .inl ⟨rfl,hQ.symm⟩
  ·rw [if_neg e] at hQ
   exact .inr ⟨fun e2=>e e2.symm,hQ⟩
 have lt:∀ (j:Nat) (Q:Pty),PS[j]?=some Q→∀ k,Q.own k→k < w.heap.size:=fun j Q hQ k hk=>h4 k (Q.no (h1 j Q hQ) k hk)
 refine ⟨⟨No',fun j Q hQ=>?_,fun o hO=>OpsIn.more (h2 o hO) t hno hd,fun k hk=>?_,hl⟩,fun j1 j2 Q1 Q2 hne q1 q2 k k1 k2=>?_,bel.trans (t.below (fun k hk hq=>by have:=h3 k (hno k hq);omega) bel.size)⟩
 ·rcases hget j Q hQ with ⟨_,rfl⟩ | ⟨hne,hQ⟩
  ·exact hin
  ·exact Q.more (h1 j Q hQ) t (fun k hk=>⟨hno k hk,fun h5=>dj j i Q P hne hQ hP k h5 hk⟩) hu hd hl
 ·rcases hd k hk with h | h
  ·exact h3 k h
  ·have:=bel.size;omega
 ·rcases hget j1 Q1 q1 with ⟨e1,rfl⟩ | ⟨e1,p1⟩ <;> rcases hget j2 Q2 q2 with ⟨e2,rfl⟩ | ⟨e2,p2⟩
  ·omega
  ·rcases ho k k1 with h | h
   ·exact dj i j2 P Q2 (fun e=>e2 e.symm) hP p2 k h k2
   ·have:=lt j2 Q2 p2 k k2;omega
  ·rcases ho k k2 with h | h
   ·exact dj j1 i Q1 P e1 p1 hP k k1 h
   ·have:=lt j1 Q1 p1 k k1;omega
  ·exact dj j1 j2 Q1 Q2 hne p1 p2 k k1 k2
/-- One more. -/
theorem Ptys.add (dj:∀ (i j:Nat) (P Q:Pty),i ≠ j→PS[i]?=some P→PS[j]?=some Q→∀ k,P.own k→¬ Q.own k) (bel:Below w0.heap.size w0 w) {No No':Nat→Prop} (h1:∀ (i:Nat) (P:Pty),PS[i]?=some P→P.In w No) (h2:∀ o ∈ O,o.In w No) (h3:∀ k,No k→w0.heap.size≤k) (h4:∀ k,No k→k < w.heap.size)
  {P':Pty} (hin:P'.In w' No') (b:Below w.heap.size w w') (hu:∀ k,No k→No' k) (hd:∀ k,No' k→No k∨w.heap.size≤k) (hl:∀ k,No' k→k < w'.heap.size) (ho:∀ k,P'.own k→w.heap.size≤k):Ptys w0 w' (PS ++ [P']) O:=by
 have t:Tn (fun _=>False) w w':=Tn.of b
 have hget:∀ (j:Nat) (Q:Pty),(PS ++ [P'])[j]?=some Q→(j=PS.length∧Q=P')∨(j < PS.length∧PS[j]?=some Q):=fun j Q hQ=>by
  rcases Nat.lt_or_ge j PS.length with h | h
  ·rw [List.getElem?_append_left h] at hQ;exact .inr ⟨h,hQ⟩
  ·rw [List.getElem?_append_right h] at hQ
   have hj:j - PS.length=0:=by have:=(List.getElem?_eq_some_iff.1 hQ).1;simp at this;omega
   rw [hj] at hQ
   injection hQ with hQ
   exact .inl ⟨by omega,hQ.symm⟩
 have lt:∀ (j:Nat) (Q:Pty),PS[j]?=some Q→∀ k,Q.own k→k < w.heap.size:=fun j Q hQ k hk=>h4 k (Q.no (h1 j Q hQ) k hk)
 refine ⟨⟨No',fun j Q hQ=>?_,fun o hO=>OpsIn.more (h2 o hO) t (fun _ h=>h.elim) hd,fun k hk=>?_,hl⟩,fun j1 j2 Q1 Q2 hne q1 q2 k k1 k2=>?_,bel.trans (b.mono bel.size)⟩
 ·rcases hget j Q hQ with ⟨_,rfl⟩ | ⟨_,hQ⟩
  ·exact hin
  ·exact Q.more (h1 j Q hQ) t (fun _ h=>h.elim) hu hd hl
 ·rcases hd k hk with h | h
  ·exact h3 k h
  ·have:=bel.size;omega
 ·rcases hget j1 Q1 q1 with ⟨e1,rfl⟩ | ⟨e1,p1⟩ <;> rcases hget j2 Q2 q2 with ⟨e2,rfl⟩ | ⟨e2,p2⟩
  ·omega
  ·have:=ho k k1;have:=lt j2 Q2 p2 k k2;omega
  ·have:=ho k k2;have:=lt j1 Q1 p1 k k1;omega
  ·exact dj j1 j2 Q1 Q2 hne p1 p2 k k1 k2
end
/-- A block that holds a row, and may turn. -/
def blkP (b:Nat) (row:Array Value) (T:TypeId):Pty where
 own:=fun k=>k=b
 In:=fun w No=>w.heap[b]?=some (.cells row T (0,0))∧No b
 more:=fun i t hq h1 _ _=>⟨(t.block b (Array.getElem?_eq_some_iff.1 i.1).1 (fun hk=>(hq b hk).2 rfl)).trans i.1,h1 b i.2⟩
 no:=fun i k hk=>by subst hk;exact i.2
/-- Nothing. -/
def emP:Pty where
 own:=fun _=>False
 In:=fun _ _=>True
 more:=fun _ _ _ _ _ _=>trivial
 no:=fun _ _ hk=>hk.elim
theorem RdAt.keep {k:IntKind} {w w':World} {No No' Q:Nat→Prop} {a:Option Addr} {n c:Nat} {l:List Int} (h:RdAt k w a n c l) (hx:∀ x,a=some x→0 < n→¬ No x.block) (t:Tn Q w w') (hq:∀ k,Q k→No k) (h2:∀ k,No' k→No k∨w.heap.size≤k):RdAt k w' a n c l∧∀ x,a=some x→0 < n→¬ No' x.block:=
 ⟨h.tn t (fun x hx' h0 e=>hx x hx' h0 (hq _ e)),fun x hx' h0 e=>by
  rcases h2 _ e with e | e
  ·exact hx x hx' h0 e
  ·have:=h.lt x hx' h0;omega⟩
section
variable {w0 w w':World} {PS:List Pty} {O:List OpsR}
/-- One goes to another's place; that one is no more. -/
theorem Ptys.move (s:Ptys w0 w PS O) (i j:Nat) {P:Pty} (hP:PS[i]?=some P):Ptys w0 w ((PS.set i emP).set j P) O:=by
 obtain ⟨No,h1,h2,h3,h4⟩:=s.ex
 have hget:∀ (m:Nat) (Q:Pty),((PS.set i emP).set j P)[m]?=some Q→Q=emP∨(m=j∧Q=P)∨(m ≠ i∧m ≠ j∧PS[m]?=some Q):=fun m Q hQ=>by
  rw [List.getElem?_set] at hQ
  by_cases e:j=m
  ·subst e
   rw [if_pos rfl] at hQ
   split at hQ
   ·injection hQ with hQ;exact .inr (.inl ⟨rfl,hQ.symm⟩)
   ·cases hQ
  ·rw [if_neg e,List.getElem?_set] at hQ
   by_cases e2:i=m
   ·subst e2
    rw [if_pos rfl] at hQ
    split at hQ
    ·injection hQ with hQ;exact .inl hQ.symm
    ·cases hQ
   ·rw [if_neg e2] at hQ
    exact .inr (.inr ⟨fun x=>e2 x.symm,fun x=>e x.symm,hQ⟩)
 refine ⟨⟨No,fun m Q hQ=>?_,h2,h3,h4⟩,fun m1 m2 Q1 Q2 hne q1 q2 k k1 k2=>?_,s.bel⟩
 ·rcases hget m Q hQ with rfl | ⟨_,rfl⟩ | ⟨_,_,hQ⟩
  ·trivial
  ·exact h1 i _ hP
  ·exact h1 m Q hQ
 ·rcases hget m1 Q1 q1 with rfl | ⟨e1,rfl⟩ | ⟨e1,e2,p1⟩
  ·exact k1
  ·rcases hget m2 Q2 q2 with rfl | ⟨e3,rfl⟩ | ⟨e3,e4,p2⟩
   ·exact k2
   ·omega
   ·exact s.dj i m2 _ _ (fun e=>e3 e.symm) hP p2 k k1 k2
  ·rcases hget m2 Q2 q2 with rfl | ⟨e3,rfl⟩ | ⟨e3,e4,p2⟩
   ·exact k2
   ·exact s.dj m1 i _ _ e1 p1 hP k k1 k2
   ·exact s.dj m1 m2 _ _ hne p1 p2 k k1 k2
theorem Ptys.drop (s:Ptys w0 w PS O) (i:Nat):Ptys w0 w (PS.set i emP) O:=by
 obtain ⟨No,h1,h2,h3,h4⟩:=s.ex
 have hget:∀ (m:Nat) (Q:Pty),(PS.set i emP)[m]?=some Q→Q=emP∨PS[m]?=some Q:=fun m Q hQ=>by
  rw [List.getElem?_set] at hQ
  by_cases e2:i=m
  ·subst e2
   rw [if_pos rfl] at hQ
   split at hQ
   ·injection hQ with hQ;exact .inl hQ.symm
   ·cases hQ
  ·rw [if_neg e2] at hQ
   exact .inr hQ
 refine ⟨⟨No,fun m Q hQ=>?_,h2,h3,h4⟩,fun m1 m2 Q1 Q2 hne q1 q2 k k1 k2=>?_,s.bel⟩
 ·rcases hget m Q hQ with rfl | hQ
  ·trivial
  ·exact h1 m Q hQ
 ·rcases hget m1 Q1 q1 with rfl | p1
  ·exact k1
  ·rcases hget m2 Q2 q2 with rfl | p2
   ·exact k2
   ·exact s.dj m1 m2 _ _ hne p1 p2 k k1 k2
/-- A row. -/
theorem Ptys.row (s:Ptys w0 w PS O) {i b:Nat} {row:Array Value} {T:TypeId} (hP:PS[i]?=some (blkP b row T)):w.heap[b]?=some (.cells row T (0,0)):=by
 obtain ⟨No,h1,_⟩:=s.ex
 exact (h1 i _ hP).1
/-- A row turned. -/
theorem Ptys.turn (s:Ptys w0 w PS O) (i:Nat) {b:Nat} {row row':Array Value} {T:TypeId} (hP:PS[i]?=some (blkP b row T)) (t:Tn (fun k=>k=b) w w') (h:w'.heap[b]?=some (.cells row' T (0,0))):Ptys w0 w' (PS.set i (blkP b row' T)) O:=by
 obtain ⟨No,h1,h2,h3,h4⟩:=s.ex
 exact Ptys.step s.dj s.bel h1 h2 h3 h4 i hP (P':=blkP b row' T) (No':=No) ⟨h,(h1 i _ hP).2⟩ t (fun k hk=>hk) (fun k hk=>.inl hk) (fun k hk=>Nat.lt_of_lt_of_le (h4 k hk) t.size) (fun k hk=>.inl hk)
/-- A new row. -/
theorem Ptys.newRow (s:Ptys w0 w PS O) (i:Nat) {P:Pty} (hP:PS[i]?=some P) {b:Nat} {row:Array Value} {T:TypeId} (hb:Below w.heap.size w w') (h:w'.heap[b]?=some (.cells row T (0,0))) (hn:w.heap.size≤b):Ptys w0 w' (PS.set i (blkP b row T)) O:=by
 obtain ⟨No,h1,h2,h3,h4⟩:=s.ex
 exact Ptys.step s.dj s.bel h1 h2 h3 h4 i hP (P':=blkP b row T) (No':=fun k=>No k∨k=b) ⟨h,.inr rfl⟩ (Tn.of hb) (fun k hk=>.inl hk) (fun k hk=>hk.imp id (fun e=>by omega))
  (fun k hk=>by
   rcases hk with hk | rfl
   ·exact Nat.lt_of_lt_of_le (h4 k hk) hb.size
   ·exact (Array.getElem?_eq_some_iff.1 h).1) (fun k hk=>.inr (by have:k=b:=hk;omega))
theorem Ptys.putTwin (s:Ptys w0 w PS O) (i j:Nat) {h:McH} {st:Mc} {P:Pty} (hP:PS[i]?=some (mcP h st)) (hJ:PS[j]?=some P) :
  Calls Tryz.prog 24 #[.pointer (some ⟨h.m,0,none⟩)] w fun e w'=>∃ h':McH,e = .returned (.pointer (some ⟨h'.m,0,none⟩))∧Ptys w0 w' (PS.set j (mcP h' st)) O∧Below w.heap.size w w':=by
 obtain ⟨No,h1,h2,h3,h4⟩:=s.ex
 refine (twin_any (h1 i _ hP)).mono ?_
 rintro e w' ⟨h',rfl,hi,ho,_,hb⟩
 exact ⟨h',rfl,Ptys.step s.dj s.bel h1 h2 h3 h4 j hJ (P':=mcP h' st) hi (Tn.of hb) (fun k hk=>.inl hk) (fun k hk=>hk.imp id (ho k)) hi.lt (fun k hk=>.inr (ho k hk)),hb⟩
theorem Ptys.putTwinR (s:Ptys w0 w PS O) (i j:Nat) {h:RmH} {st:Mc} {P:Pty} (hP:PS[i]?=some (rmP h st)) (hJ:PS[j]?=some P) :
  Calls Tryz.prog 8 #[.pointer (some ⟨h.m,0,none⟩)] w fun e w'=>∃ h':RmH,e = .returned (.pointer (some ⟨h'.m,0,none⟩))∧Ptys w0 w' (PS.set j (rmP h' st)) O∧Below w.heap.size w w':=by
 obtain ⟨No,h1,h2,h3,h4⟩:=s.ex
 refine (rtwinM_any (h1 i _ hP)).mono ?_
 rintro e w' ⟨h',rfl,hi,ho,_,hb⟩
 exact ⟨h',rfl,Ptys.step s.dj s.bel h1 h2 h3 h4 j hJ (P':=rmP h' st) hi (Tn.of hb) (fun k hk=>.inl hk) (fun k hk=>hk.imp id (ho k)) hi.lt (fun k hk=>.inr (ho k hk)),hb⟩
end
theorem cel0 {w w':World} {a:Addr} {v:Value} (hb:Below w.heap.size w w') (h:w.cell? a=some v):w'.cell? a=some v:=cel hb h
def ov:Option Nat→Value
 | none=>.pointer none
 | some m=>.pointer (some ⟨m,0,none⟩)
def duRow (c:Cf) (lv sv:Option Nat) (ep:Int) (pd:Option Nat) (db:Bool):Array Value:=
 #[.int .i64 c.a0,.int .i64 c.a1,.int .i64 c.a2,.int .i64 c.a3,.int .i64 c.page,.int .i64 c.a5,.int .i64 c.procs,.int .i64 c.regions,.int .i64 c.pages,ov lv,ov sv,.int .u64 ep,ov pd,.bool db]
structure DuAt (w:World) (b:Nat) (c:Cf) (lv sv:Option Nat) (ep:Int) (pd:Option Nat) (db:Bool):Prop where
 row:w.heap[b]?=some (.cells (duRow c lv sv ep pd db) 63 (0,0))
section
variable {w:World} {b:Nat} {c:Cf} {lv sv pd:Option Nat} {ep:Int} {db:Bool}
theorem DuAt.cells (h:DuAt w b c lv sv ep pd db):w.cell? ⟨b,9,none⟩=some (ov lv)∧w.cell? ⟨b,10,none⟩=some (ov sv)∧w.cell? ⟨b,11,none⟩=some (.int .u64 ep)∧w.cell? ⟨b,12,none⟩=some (ov pd)∧w.cell? ⟨b,13,none⟩=some (.bool db):=
 ⟨(cell_of_row w b 9 _ _ _ h.row).trans rfl,(cell_of_row w b 10 _ _ _ h.row).trans rfl,(cell_of_row w b 11 _ _ _ h.row).trans rfl,(cell_of_row w b 12 _ _ _ h.row).trans rfl,(cell_of_row w b 13 _ _ _ h.row).trans rfl⟩
theorem down_any (h:DuAt w b c lv sv ep pd db):Calls Tryz.prog 34 #[.pointer (some ⟨b,0,none⟩)] w fun e w'=>e = .returned (.bool lv.isNone)∧w=w':=by
 obtain ⟨c9,_,_,_,_⟩:=h.cells
 cases lv <;> simp only [ov] at c9 <;> (go_enter Tryz.func34,Tryz.ntmps34) <;> go_wp2 <;> go_ret <;> exact ⟨rfl,rfl⟩
theorem when_any (x:Bool) (w:World):Calls Tryz.prog 35 #[.bool x] w fun e w'=>e = .returned (.int .i64 (if x then 0 else 1))∧w=w':=by
 cases x <;> (go_enter Tryz.func35,Tryz.ntmps35) <;> go_wp2 <;> go_ret <;> exact ⟨rfl,rfl⟩
theorem begun_any (h:DuAt w b c lv sv ep pd db):Calls Tryz.prog 40 #[.pointer (some ⟨b,0,none⟩)] w fun e w'=>e = .returned (.bool (pd.isSome && lv.isSome))∧w=w':=by
 obtain ⟨c9,_,_,c12,_⟩:=h.cells
 cases lv <;> cases pd <;> simp only [ov] at c9 c12 <;> (go_enter Tryz.func40,Tryz.ntmps40) <;> go_wp2 <;> go_ret <;> exact ⟨rfl,rfl⟩
theorem doubt_any (h:DuAt w b c lv sv ep pd db):Calls Tryz.prog 17 #[.pointer (some ⟨b,0,none⟩)] w fun e w'=>e = .returned (.bool db)∧w=w':=by
 obtain ⟨_,_,_,_,c13⟩:=h.cells
 go_enter Tryz.func17,Tryz.ntmps17
 go_wp2
 go_ret
 exact ⟨rfl,rfl⟩
theorem tn_set (w:World) (b i:Nat) (v:Value):Tn (fun k=>k=b) w (w.setCell ⟨b,i,none⟩ v):=
 ⟨rfl,rfl,rfl,by simp,fun k _ hk=>heap_setCell_other w ⟨b,i,none⟩ k v (fun e=>hk e)⟩
theorem cut_off (h:DuAt w b c lv sv ep pd false):Calls Tryz.prog 13 #[.pointer (some ⟨b,0,none⟩)] w fun e w'=>e = .returned (.tuple #[])∧DuAt w' b c none sv ep none false∧Tn (fun k=>k=b) w w':=by
 obtain ⟨c9,_,_,_,c13⟩:=h.cells
 have f0:∀ i,w.frozen? ⟨b,i,none⟩=false:=fun i=>frozen_of_row w b i _ _ h.row
 have h2:=heap_setCell_same w b 9 _ _ (.pointer none) h.row
 have f2:∀ i,(w.setCell ⟨b,9,none⟩ (.pointer none)).frozen? ⟨b,i,none⟩=false:=fun i=>frozen_of_row _ b i _ _ h2
 have d13:(w.setCell ⟨b,9,none⟩ (.pointer none)).cell? ⟨b,13,none⟩=some (.bool false):=(cell_of_row _ b 13 _ _ _ h2).trans rfl
 have d12:(w.setCell ⟨b,9,none⟩ (.pointer none)).cell? ⟨b,12,none⟩=some (ov pd):=(cell_of_row _ b 12 _ _ _ h2).trans rfl
 have f9:=f0 9
 have f12:=f2 12
 have h3:=heap_setCell_same _ b 12 _ _ (.pointer none) h2
 go_enter Tryz.func13,Tryz.ntmps13
 go_wp2
 go_end0
 exact ⟨rfl,⟨h3⟩,(tn_set w b 9 _).trans (tn_set _ b 12 _)⟩
theorem cut_on (h:DuAt w b c lv sv ep pd true):Calls Tryz.prog 13 #[.pointer (some ⟨b,0,none⟩)] w fun e w'=>e = .returned (.tuple #[])∧DuAt w' b c none sv ep pd true∧Tn (fun k=>k=b) w w':=by
 obtain ⟨c9,_,_,_,c13⟩:=h.cells
 have f0:∀ i,w.frozen? ⟨b,i,none⟩=false:=fun i=>frozen_of_row w b i _ _ h.row
 have h2:=heap_setCell_same w b 9 _ _ (.pointer none) h.row
 have d13:(w.setCell ⟨b,9,none⟩ (.pointer none)).cell? ⟨b,13,none⟩=some (.bool true):=(cell_of_row _ b 13 _ _ _ h2).trans rfl
 have f9:=f0 9
 go_enter Tryz.func13,Tryz.ntmps13
 go_wp2
 go_end0
 exact ⟨rfl,⟨h2⟩,tn_set w b 9 _⟩
end
def duP (b:Nat) (c:Cf) (lv sv:Option Nat) (ep:Int) (pd:Option Nat) (db:Bool):Pty:=blkP b (duRow c lv sv ep pd db) 63
section
variable {w0 w:World} {PS:List Pty} {O:List OpsR} {b:Nat} {c:Cf} {sv pd:Option Nat} {lv:Option Nat} {ep:Int} {db:Bool}
theorem Ptys.du (s:Ptys w0 w PS O) {i:Nat} (hP:PS[i]?=some (duP b c lv sv ep pd db)):DuAt w b c lv sv ep pd db:=⟨s.row hP⟩
theorem DuAt.below {w w':World} (h:DuAt w b c lv sv ep pd db) (k:Below w.heap.size w w'):DuAt w' b c lv sv ep pd db:=⟨(k.block b (Array.getElem?_eq_some_iff.1 h.row).1).trans h.row⟩
/-- A checkpoint is begun. -/
theorem begin_new (s:Ptys w0 w PS O) {hL:McH} {M:Mc} {P3:Pty} (hS:PS[0]?=some (duP b c (some hL.m) sv ep none db)) (h1:PS[1]?=some (mcP hL M)) (h3:PS[3]?=some P3) :
  Calls Tryz.prog 11 #[.pointer (some ⟨b,0,none⟩),.int .i64 0] w fun e w'=>∃ hP:McH,e = .returned (.int .i64 0)∧Ptys w0 w' ((PS.set 3 (mcP hP M)).set 0 (duP b c (some hL.m) sv ep (some hP.m) db)) O:=by
 have hd:=s.du hS
 have HS:=Lib.hid s;have HD:=Lib.hid hd
 obtain ⟨c9,_,_,_,_⟩:=hd.cells
 simp only [ov] at c9
 have HC1:Hid (Calls Tryz.prog 34 #[.pointer (some ⟨b,0,none⟩)] w fun e w'=>e = .returned (.bool false)∧w=w'):=down_any hd
 have HC2:Hid (Calls Tryz.prog 40 #[.pointer (some ⟨b,0,none⟩)] w fun e w'=>e = .returned (.bool false)∧w=w'):=begun_any hd
 have HC3:=Lib.hid (s.putTwin 1 3 h1 h3)
 have hs0:(PS.set 3 P3)[0]?=PS[0]?:=by rw [List.getElem?_set];simp
 have HI:=Lib.hid hS;clear s hd hS
 go_enter Tryz.func11,Tryz.ntmps11
 go_wp2_with (first | (go_at_call 34;refine HC1.out.mono ?_;rintro e w' ⟨rfl,rfl⟩) | (go_at_call 40;refine HC2.out.mono ?_;rintro e w' ⟨rfl,rfl⟩) | (go_at_call 24;refine HC3.out.mono ?_;rintro e w2 ⟨hP,rfl,hQ,hB⟩;replace HD:=Lib.hid (HD.out.below hB);have HQ:=Lib.hid hQ;have k12:=HD.out.cells.2.2.2.1;have f12:=frozen_of_row w2 b 12 _ _ HD.out.row;clear hQ hB))
 go_ret
 exact ⟨hP,rfl,HQ.out.turn 0 (by rw [List.getElem?_set];simp;exact HI.out) (tn_set w2 b 12 _) (heap_setCell_same w2 b 12 _ _ (ov (some hP.m)) HD.out.row)⟩
/-- One is begun already. -/
theorem begin_more {lL lP:Nat} (hd:DuAt w b c (some lL) sv ep (some lP) db) :
  Calls Tryz.prog 11 #[.pointer (some ⟨b,0,none⟩),.int .i64 9] w fun e w'=>e = .returned (.int .i64 0)∧w=w':=by
 have HC1:Hid (Calls Tryz.prog 34 #[.pointer (some ⟨b,0,none⟩)] w fun e w'=>e = .returned (.bool false)∧w=w'):=down_any hd
 have HC2:Hid (Calls Tryz.prog 40 #[.pointer (some ⟨b,0,none⟩)] w fun e w'=>e = .returned (.bool true)∧w=w'):=begun_any hd
 have HC3:Hid (Calls Tryz.prog 35 #[.bool true] w fun e w'=>e = .returned (.int .i64 0)∧w=w'):=when_any true w
 clear hd
 go_enter Tryz.func11,Tryz.ntmps11
 go_wp2_with (first | (go_at_call 34;refine HC1.out.mono ?_;rintro e w' ⟨rfl,rfl⟩) | (go_at_call 40;refine HC2.out.mono ?_;rintro e w' ⟨rfl,rfl⟩) | (go_at_call 35;refine HC3.out.mono ?_;rintro e w' ⟨rfl,rfl⟩))
 go_ret
 exact ⟨rfl,rfl⟩
/-- Commit says: nothing was begun. -/
theorem commit_not {lL:Nat} (hd:DuAt w b c (some lL) sv ep pd db) :
  Calls Tryz.prog 12 #[.pointer (some ⟨b,0,none⟩),.int .i64 9,.int .u64 0,.bool false] w fun e w'=>e = .returned (.int .i64 0)∧w=w':=by
 have HC1:Hid (Calls Tryz.prog 34 #[.pointer (some ⟨b,0,none⟩)] w fun e w'=>e = .returned (.bool false)∧w=w'):=down_any hd
 have HC3:Hid (Calls Tryz.prog 35 #[.bool true] w fun e w'=>e = .returned (.int .i64 0)∧w=w'):=when_any true w
 clear hd
 go_enter Tryz.func12,Tryz.ntmps12
 go_wp2_with (first | (go_at_call 34;refine HC1.out.mono ?_;rintro e w' ⟨rfl,rfl⟩) | (go_at_call 35;refine HC3.out.mono ?_;rintro e w' ⟨rfl,rfl⟩))
 go_ret
 exact ⟨rfl,rfl⟩
/-- Committed. -/
theorem commit_ok {lL lP:Nat} (hd:DuAt w b c (some lL) sv ep (some lP) db) (hep:0≤ep∧ep≤1000000) :
  Calls Tryz.prog 12 #[.pointer (some ⟨b,0,none⟩),.int .i64 0,.int .u64 (ep+1),.bool false] w fun e w'=>e = .returned (.int .i64 0)∧DuAt w' b c (some lL) (some lP) (ep+1) none db∧Tn (fun k=>k=b) w w':=by
 have HC1:Hid (Calls Tryz.prog 34 #[.pointer (some ⟨b,0,none⟩)] w fun e w'=>e = .returned (.bool false)∧w=w'):=down_any hd
 have HC2:Hid (Calls Tryz.prog 40 #[.pointer (some ⟨b,0,none⟩)] w fun e w'=>e = .returned (.bool true)∧w=w'):=begun_any hd
 obtain ⟨c9,c10,c11,c12,c13⟩:=hd.cells
 simp only [ov] at c12
 have hw:IntKind.u64.wrap (ep+1)=ep+1:=by unfold IntKind.wrap;simp [IntKind.bits];omega
 have h1:=heap_setCell_same w b 10 _ _ (ov (some lP)) hd.row
 have h2:=heap_setCell_same _ b 11 _ _ (.int .u64 (ep+1)) h1
 have h3:=heap_setCell_same _ b 12 _ _ (ov none) h2
 have f10:=frozen_of_row w b 10 _ _ hd.row
 have f11:=frozen_of_row _ b 11 _ _ h1
 have f12:=frozen_of_row _ b 12 _ _ h2
 simp only [ov] at f11 f12
 have HR:=Lib.hid h3;clear hd h1 h2 h3
 go_enter Tryz.func12,Tryz.ntmps12
 go_wp2_with (first | (go_at_call 34;refine HC1.out.mono ?_;rintro e w' ⟨rfl,rfl⟩) | (go_at_call 40;refine HC2.out.mono ?_;rintro e w' ⟨rfl,rfl⟩))
 go_ret
 exact ⟨rfl,⟨HR.out⟩,((tn_set w b 10 _).trans (tn_set _ b 11 _)).trans (tn_set _ b 12 _)⟩
/-- The power goes in a commit. -/
theorem commit_cut {lL lP:Nat} (hd:DuAt w b c (some lL) sv ep (some lP) db) :
  Calls Tryz.prog 12 #[.pointer (some ⟨b,0,none⟩),.int .i64 8,.int .u64 0,.bool true] w fun e w'=>e = .returned (.int .i64 0)∧DuAt w' b c none sv ep (some lP) true∧Tn (fun k=>k=b) w w':=by
 have HC1:Hid (Calls Tryz.prog 34 #[.pointer (some ⟨b,0,none⟩)] w fun e w'=>e = .returned (.bool false)∧w=w'):=down_any hd
 have HC2:Hid (Calls Tryz.prog 40 #[.pointer (some ⟨b,0,none⟩)] w fun e w'=>e = .returned (.bool true)∧w=w'):=begun_any hd
 have h1:DuAt (w.setCell ⟨b,13,none⟩ (.bool true)) b c (some lL) sv ep (some lP) true:=⟨heap_setCell_same w b 13 _ _ (.bool true) hd.row⟩
 have f13:=frozen_of_row w b 13 _ _ hd.row
 have c13:=hd.cells.2.2.2.2
 have HC3:=Lib.hid (cut_on h1)
 clear hd h1
 go_enter Tryz.func12,Tryz.ntmps12
 go_wp2_with (first | (go_at_call 34;refine HC1.out.mono ?_;rintro e w' ⟨rfl,rfl⟩) | (go_at_call 40;refine HC2.out.mono ?_;rintro e w' ⟨rfl,rfl⟩) | (go_at_call 13;refine HC3.out.mono ?_;rintro e w2 ⟨rfl,hD,hT⟩))
 go_ret
 exact ⟨rfl,hD,(tn_set w b 13 _).trans hT⟩
end
section
variable {w:World} {b:Nat} {c:Cf} {lv sv pd:Option Nat} {ep:Int} {db:Bool}
theorem found_saved (hd:DuAt w b c lv sv ep pd db) (eb sb:Nat) (he:w.cell? ⟨eb,0,none⟩=some (.int .u64 ep)) (hs:w.cell? ⟨sb,0,none⟩=some (.pointer (some ⟨b,0,none⟩))) :
  Calls Tryz.prog 41 #[.pointer (some ⟨eb,0,none⟩),.pointer (some ⟨sb,0,none⟩)] w fun e w'=>e = .returned (ov sv)∧Below w.heap.size w w':=by
 obtain ⟨c9,c10,c11,c12,c13⟩:=hd.cells
 have C10:=Lib.hid c10;have HS:=Lib.hid hs
 obtain ⟨V,hV⟩:∃ v,ov sv=v:=⟨_,rfl⟩
 rw [hV] at c10 ⊢;clear hd C10 hV c9 c12 c13
 go_enter Tryz.func41,Tryz.ntmps41
 go_wp2_with fail;go_quiet (fail)
 obtain ⟨wQ,hwQ⟩:∃ y,w.drewN nq=y:=⟨_,rfl⟩
 have hbq:Below w.heap.size w wQ:=by rw [← hwQ];exact belowN (Below.refl _ _) _
 rw [hwQ];clear hwQ;replace c10:=cel0 hbq c10;replace hs:=cel0 hbq hs;go_wp2_with fail
 go_ret
 exact ⟨rfl,hbq⟩
theorem found_pend (hd:DuAt w b c lv sv ep pd true) (hep:0≤ep∧ep≤1000000) (eb sb:Nat) (he:w.cell? ⟨eb,0,none⟩=some (.int .u64 (ep+1))) (hs:w.cell? ⟨sb,0,none⟩=some (.pointer (some ⟨b,0,none⟩))) :
  Calls Tryz.prog 41 #[.pointer (some ⟨eb,0,none⟩),.pointer (some ⟨sb,0,none⟩)] w fun e w'=>e = .returned (ov pd)∧Below w.heap.size w w':=by
 obtain ⟨c9,c10,c11,c12,c13⟩:=hd.cells
 have hw:IntKind.u64.wrap (ep+1)=ep+1:=by unfold IntKind.wrap;simp [IntKind.bits];omega
 have hne:(ep+1 == ep)=false:=beq_eq_false_iff_ne.2 (by omega)
 have hdd:decide (ep+1=ep)=false:=decide_eq_false (by omega)
 obtain ⟨E,hE⟩:∃ x,ep+1=x:=⟨_,rfl⟩
 rw [hE] at he hw hne hdd
 have hw2:IntKind.u64.wrap (ep+1)=E:=by rw [hE];exact hw
 obtain ⟨V,hV⟩:∃ v,ov pd=v:=⟨_,rfl⟩
 rw [hV] at c12 ⊢;clear hd hV c9 c10 hep hw hE
 go_enter Tryz.func41,Tryz.ntmps41
 go_wp2_with fail;go_quiet (fail)
 obtain ⟨wQ,hwQ⟩:∃ y,w.drewN nq=y:=⟨_,rfl⟩
 have hbq:Below w.heap.size w wQ:=by rw [← hwQ];exact belowN (Below.refl _ _) _
 rw [hwQ];clear hwQ;replace c11:=cel0 hbq c11;replace c12:=cel0 hbq c12;replace c13:=cel0 hbq c13;replace hs:=cel0 hbq hs;replace he:=cel0 hbq he;go_wp2_with fail;go_quiet (fail)
 obtain ⟨wR,hwR⟩:∃ y,wQ.drewN nq=y:=⟨_,rfl⟩
 have hbr:Below wQ.heap.size wQ wR:=by rw [← hwR];exact belowN (Below.refl _ _) _
 rw [hwR];clear hwR;replace c12:=cel0 hbr c12;replace hs:=cel0 hbr hs;go_wp2_with fail
 go_ret
 exact ⟨rfl,hbq.trans (hbr.mono hbq.size)⟩
end
theorem turnE0_ne (L:List Rg) (o:Opn):turnE0 L o ≠ 7∧turnE0 L o ≠ 8:=by
 unfold turnE0 mapE proE
 repeat' split
 all_goals decide
theorem checkE_ne (st:Mc) (o:Opn):checkE st o ≠ 7∧checkE st o ≠ 8:=by
 have h:=turnE0_ne (st.rs o.pid) o
 unfold checkE turnE bytesE Mc.full
 repeat' split
 all_goals first | decide | exact h
theorem ansM_ne (st:Mc) (o:Opn):(ansM st o).err ≠ 7∧(ansM st o).err ≠ 8:=by
 have h:=checkE_ne st o
 unfold ansM
 repeat' split
 all_goals first | exact h | exact ⟨by show (0:Int) ≠ 7;decide,by show (0:Int) ≠ 8;decide⟩
theorem ansM_pids (st:Mc) (o:Opn):(ansM st o).pids.length≤st.pr:=by
 have h:=pidsK_le st.v st.pr
 unfold ansM
 repeat' split
 all_goals first | exact h | exact Nat.zero_le _

/-- Are two answers the same? -/
theorem dsame_any (E P E2 P2:Int) (da da2 pa pa2:Option Addr) (n n2 m m2 dc dc2 pc pc2:Nat) (D D2 L L2:List Int) (w:World) (h1:RdAt .u8 w da n dc D) (h2:RdAt .u8 w da2 n2 dc2 D2) (h3:RdAt .i64 w pa m pc L) (h4:RdAt .i64 w pa2 m2 pc2 L2) (hm:m≤1000000∧m2≤1000000) :
  Calls Tryz.prog 36 #[.agg #[.int .i64 E,.int .i64 P,.slice da n dc,.slice pa m pc],.agg #[.int .i64 E2,.int .i64 P2,.slice da2 n2 dc2,.slice pa2 m2 pc2]] w fun e w'=>e = .returned (.bool (decide (E=E2∧P=P2∧D=D2∧L=L2)))∧Below w.heap.size w w':=by
 have hb:=below_a2 w (.cells #[.int .i64 E,.int .i64 P,.slice da n dc,.slice pa m pc] 42) (.cells #[.int .i64 E2,.int .i64 P2,.slice da2 n2 dc2,.slice pa2 m2 pc2] 42)
 have hr0:=al2_0 w (.cells #[.int .i64 E,.int .i64 P,.slice da n dc,.slice pa m pc] 42) (.cells #[.int .i64 E2,.int .i64 P2,.slice da2 n2 dc2,.slice pa2 m2 pc2] 42)
 have hr1:=al2_1 w (.cells #[.int .i64 E,.int .i64 P,.slice da n dc,.slice pa m pc] 42) (.cells #[.int .i64 E2,.int .i64 P2,.slice da2 n2 dc2,.slice pa2 m2 pc2] 42)
 obtain ⟨w1,hw1⟩:∃ y,(w.alloc (.cells #[.int .i64 E,.int .i64 P,.slice da n dc,.slice pa m pc] 42)).alloc (.cells #[.int .i64 E2,.int .i64 P2,.slice da2 n2 dc2,.slice pa2 m2 pc2] 42)=y:=⟨_,rfl⟩
 rw [hw1] at hb hr0 hr1;have HB:=Lib.hid hb;have HW1:=Lib.hid hw1
 have HC1:=Lib.hid (bytesEq_any da n dc D da2 n2 dc2 D2 w1 (h1.below hb) (h2.below hb))
 have HC2:=Lib.hid (equalI_any pa m pc L pa2 m2 pc2 L2 w1 (h3.below hb) (h4.below hb) hm)
 obtain ⟨y0,y1,y2,y3⟩:=cells4a hr0
 obtain ⟨z0,z1,z2,z3⟩:=cells4a hr1
 obtain ⟨R,hR⟩:∃ x,decide (E=E2∧P=P2∧D=D2∧L=L2)=x:=⟨_,rfl⟩
 rw [hR];clear h1 h2 h3 h4 hb hr0 hr1 hw1 hm
 by_cases hE:E=E2
 ·subst hE
  by_cases hP:P=P2
  ·subst hP
   by_cases hD:D=D2
   ·have hRL:decide (L=L2)=R:=by rw [← hR];simp [hD]
    have HRL:=Lib.hid hRL;replace HC1:=HC1.out;rw [decide_eq_true hD] at HC1;replace HC1:=Lib.hid HC1;replace HC2:=HC2.out;rw [hRL] at HC2;replace HC2:=Lib.hid HC2;clear hRL hR hD
    go_enter Tryz.func36,Tryz.ntmps36
    go_wp2_with (first | (rw [HW1.out]) | (go_at_call 59;refine HC1.out.mono ?_;rintro e w' ⟨rfl,rfl⟩) | (go_at_call 60;refine HC2.out.mono ?_;rintro e w2 ⟨rfl,hb2⟩))
    go_ret
    exact ⟨rfl,HB.out.trans (hb2.mono HB.out.size)⟩
   ·have hRf:R=false:=by rw [← hR];simp [hD]
    subst hRf;replace HC1:=HC1.out;rw [decide_eq_false hD] at HC1;replace HC1:=Lib.hid HC1;clear hR hD HC2
    go_enter Tryz.func36,Tryz.ntmps36
    go_wp2_with (first | (rw [HW1.out]) | (go_at_call 59;refine HC1.out.mono ?_;rintro e w' ⟨rfl,rfl⟩))
    go_ret
    exact ⟨rfl,HB.out⟩
  ·have hRf:R=false:=by rw [← hR];simp [hP]
   subst hRf
   have dP:decide (P=P2)=false:=decide_eq_false hP
   have bP:(P == P2)=false:=beq_eq_false_iff_ne.2 hP
   clear hR hP HC1 HC2
   go_enter Tryz.func36,Tryz.ntmps36
   go_wp2_with (rw [HW1.out])
   go_ret
   exact ⟨rfl,HB.out⟩
 ·have hRf:R=false:=by rw [← hR];simp [hE]
  subst hRf
  have dE:decide (E=E2)=false:=decide_eq_false hE
  have bE:(E == E2)=false:=beq_eq_false_iff_ne.2 hE
  clear hR hE HC1 HC2
  go_enter Tryz.func36,Tryz.ntmps36
  go_wp2_with (rw [HW1.out])
  go_ret
  exact ⟨rfl,HB.out⟩
section
variable {w0 w:World} {PS:List Pty} {O:List OpsR} {b:Nat} {c:Cf} {sv pd:Option Nat} {ep:Int} {db:Bool}
/-- It is down: so is said. -/
theorem do_down (hd:DuAt w b c none sv ep pd db) (A:OpP) (ta:Option Addr) (tn tc:Nat) :
  Calls Tryz.prog 10 #[.pointer (some ⟨b,0,none⟩),.agg #[.int .i64 A.kind,.int .i64 A.pid,.int .i64 A.at_,.int .i64 A.n,.int .i64 A.prot,.slice ta tn tc],.agg #[.int .i64 8,.int .i64 0,.slice none 0 0,.slice none 0 0]] w fun e w'=>e = .returned (.int .i64 0)∧Below w.heap.size w w':=by
 have hb:=below_a2 w (.cells #[.int .i64 A.kind,.int .i64 A.pid,.int .i64 A.at_,.int .i64 A.n,.int .i64 A.prot,.slice ta tn tc] 39) (.cells #[.int .i64 8,.int .i64 0,.slice none 0 0,.slice none 0 0] 42)
 have hr1:=al2_1 w (.cells #[.int .i64 A.kind,.int .i64 A.pid,.int .i64 A.at_,.int .i64 A.n,.int .i64 A.prot,.slice ta tn tc] 39) (.cells #[.int .i64 8,.int .i64 0,.slice none 0 0,.slice none 0 0] 42)
 obtain ⟨w1,hw1⟩:∃ y,(w.alloc (.cells #[.int .i64 A.kind,.int .i64 A.pid,.int .i64 A.at_,.int .i64 A.n,.int .i64 A.prot,.slice ta tn tc] 39)).alloc (.cells #[.int .i64 8,.int .i64 0,.slice none 0 0,.slice none 0 0] 42)=y:=⟨_,rfl⟩
 rw [hw1] at hb hr1;have HB:=Lib.hid hb;have HW1:=Lib.hid hw1
 obtain ⟨y0,y1,y2,y3⟩:=cells4a hr1
 have HC1:Hid (Calls Tryz.prog 34 #[.pointer (some ⟨b,0,none⟩)] w1 fun e w'=>e = .returned (.bool true)∧w1=w'):=down_any (hd.below hb)
 have HC2:=Lib.hid (dsame_any 8 0 8 0 none none none none 0 0 0 0 0 0 0 0 [] [] [] [] w1 (RdAt.nil _ _) (RdAt.nil _ _) (RdAt.nil _ _) (RdAt.nil _ _) (by omega))
 clear hd hb hr1 hw1
 go_enter Tryz.func10,Tryz.ntmps10
 go_wp2_with (first | (rw [HW1.out]) | (go_at_call 34;refine HC1.out.mono ?_;rintro e w' ⟨rfl,rfl⟩) | (go_at_call 36;refine HC2.out.mono ?_;rintro e w2 ⟨rfl,hb2⟩) | (go_at_call 35;refine (when_any true _).mono ?_;rintro e w' ⟨rfl,rfl⟩))
 go_ret
 exact ⟨rfl,HB.out.trans (hb2.mono HB.out.size)⟩
set_option maxHeartbeats 2000000 in
/-- The machine's own answer. -/
theorem do_up (s:Ptys w0 w PS O) {hL:McH} {M:Mc} (hS:PS[0]?=some (duP b c (some hL.m) sv ep pd db)) (h1:PS[1]?=some (mcP hL M)) (A:OpP) (ta:Option Addr) (tn tc:Nat)
  (W:(Lit.int .i64 A.kind).wf=true∧(Lit.int .i64 A.pid).wf=true∧(Lit.int .i64 A.at_).wf=true∧(Lit.int .i64 A.n).wf=true∧(Lit.int .i64 A.prot).wf=true) (hX:∀ No:Nat→Prop,(∀ (i:Nat) (P:Pty),PS[i]?=some P→P.In w No)→RdAt .u8 w ta tn tc A.data∧∀ x,ta=some x→0 < tn→¬ No x.block)
  (AN:Ans) (hAN:ansM M A.o=AN) (da pa:Option Addr) (n0 dc m0 pc:Nat) (hD:RdAt .u8 w da n0 dc AN.data) (hP:RdAt .i64 w pa m0 pc AN.pids) :
  Calls Tryz.prog 10 #[.pointer (some ⟨b,0,none⟩),.agg #[.int .i64 A.kind,.int .i64 A.pid,.int .i64 A.at_,.int .i64 A.n,.int .i64 A.prot,.slice ta tn tc],.agg #[.int .i64 AN.err,.int .i64 AN.pid,.slice da n0 dc,.slice pa m0 pc]] w fun e w'=>∃ h2:McH,e = .returned (.int .i64 0)∧Ptys w0 w' ((PS.set 1 (mcP h2 (stepM M A.o))).set 0 (duP b c (some h2.m) sv ep pd db)) O:=by
 obtain ⟨No,q1,q2,q3,q4⟩:=s.ex
 have hl:McIn w No hL M:=q1 1 _ h1
 obtain ⟨hrd,hnx⟩:=hX No q1
 have hd:=s.du hS
 have hpl:m0≤64:=by
  have:=hP.len
  have h5:=ansM_pids M A.o
  rw [hAN] at h5
  have h6:=hl.ok.cf.procs
  have h7:=hl.ok.prI
  omega
 have hne:=ansM_ne M A.o
 rw [hAN] at hne;have HS:=Lib.hid s;have HI:=Lib.hid hS;have HI1:=Lib.hid h1;have HNX:=Lib.hid hnx;have HAN:=Lib.hid hAN;have HQ1:=Lib.hid q1;have HQ2:=Lib.hid q2;have HQ3:=Lib.hid q3;have HQ4:=Lib.hid q4;have HWF:=Lib.hid W
 have hb:=below_a2 w (.cells #[.int .i64 A.kind,.int .i64 A.pid,.int .i64 A.at_,.int .i64 A.n,.int .i64 A.prot,.slice ta tn tc] 39) (.cells #[.int .i64 AN.err,.int .i64 AN.pid,.slice da n0 dc,.slice pa m0 pc] 42)
 have hr0:=al2_0 w (.cells #[.int .i64 A.kind,.int .i64 A.pid,.int .i64 A.at_,.int .i64 A.n,.int .i64 A.prot,.slice ta tn tc] 39) (.cells #[.int .i64 AN.err,.int .i64 AN.pid,.slice da n0 dc,.slice pa m0 pc] 42)
 have hr1:=al2_1 w (.cells #[.int .i64 A.kind,.int .i64 A.pid,.int .i64 A.at_,.int .i64 A.n,.int .i64 A.prot,.slice ta tn tc] 39) (.cells #[.int .i64 AN.err,.int .i64 AN.pid,.slice da n0 dc,.slice pa m0 pc] 42)
 obtain ⟨w1,hw1⟩:∃ y,(w.alloc (.cells #[.int .i64 A.kind,.int .i64 A.pid,.int .i64 A.at_,.int .i64 A.n,.int .i64 A.prot,.slice ta tn tc] 39)).alloc (.cells #[.int .i64 AN.err,.int .i64 AN.pid,.slice da n0 dc,.slice pa m0 pc] 42)=y:=⟨_,rfl⟩
 rw [hw1] at hb hr0 hr1;have HB:=Lib.hid hb;have HW1:=Lib.hid hw1;have HR0:=Lib.hid hr0;have HR1:=Lib.hid hr1
 obtain ⟨y0,y1,y2,y3⟩:=cells4a hr1
 have hd1:=hd.below hb
 obtain ⟨c9,_,_,_,_⟩:=hd1.cells
 simp only [ov] at c9
 have HL1:=Lib.hid (hl.below hb)
 have HD1:=Lib.hid hd1
 have HRD:=Lib.hid (hrd.below hb)
 have HDD:=Lib.hid (hD.below hb)
 have HPP:=Lib.hid (hP.below hb)
 have HPL:=Lib.hid hpl
 have HC1:Hid (Calls Tryz.prog 34 #[.pointer (some ⟨b,0,none⟩)] w1 fun e w'=>e = .returned (.bool false)∧w1=w'):=down_any hd1
 have HS7:Hid (∀ w2,Below w1.heap.size w1 w2→Calls Tryz.prog 36 #[.agg #[.int .i64 AN.err,.int .i64 AN.pid,.slice da n0 dc,.slice pa m0 pc],.agg #[.int .i64 7,.int .i64 0,.slice none 0 0,.slice none 0 0]] w2 fun e w'=>e = .returned (.bool false)∧Below w2.heap.size w2 w'):=fun w2 hb2=>by
  have h:=dsame_any AN.err AN.pid 7 0 da none pa none n0 0 m0 0 dc 0 pc 0 AN.data [] AN.pids [] w2 (HDD.out.below hb2) (RdAt.nil _ _) (HPP.out.below hb2) (RdAt.nil _ _) ⟨by omega,by omega⟩
  rw [decide_eq_false (fun e=>hne.1 e.1)] at h
  exact h
 have HS8:Hid (∀ w2,Below w1.heap.size w1 w2→Calls Tryz.prog 36 #[.agg #[.int .i64 AN.err,.int .i64 AN.pid,.slice da n0 dc,.slice pa m0 pc],.agg #[.int .i64 8,.int .i64 0,.slice none 0 0,.slice none 0 0]] w2 fun e w'=>e = .returned (.bool false)∧Below w2.heap.size w2 w'):=fun w2 hb2=>by
  have h:=dsame_any AN.err AN.pid 8 0 da none pa none n0 0 m0 0 dc 0 pc 0 AN.data [] AN.pids [] w2 (HDD.out.below hb2) (RdAt.nil _ _) (HPP.out.below hb2) (RdAt.nil _ _) ⟨by omega,by omega⟩
  rw [decide_eq_false (fun e=>hne.2 e.1)] at h
  exact h
 clear s hS h1 q1 q2 q3 q4 hl hrd hnx hd hpl hne hAN hX hb hr0 hr1 hw1 hd1 hD hP W
 go_enter Tryz.func10,Tryz.ntmps10
 go_wp2_with (first | (rw [HW1.out]) | (go_at_call 34;refine HC1.out.mono ?_;rintro e w' ⟨rfl,rfl⟩))
 refine (HS7.out _ (Below.refl _ _)).mono ?_
 rintro e w2 ⟨rfl,hb2⟩
 replace y0:=cel0 hb2 y0;replace y1:=cel0 hb2 y1;replace y2:=cel0 hb2 y2;replace y3:=cel0 hb2 y3;replace c9:=cel0 hb2 c9;go_wp2_with fail
 refine (HS8.out _ hb2).mono ?_
 rintro e w3 ⟨rfl,hb3⟩
 replace c9:=cel0 hb3 c9
 have HB30:=Lib.hid (hb2.trans (hb3.mono hb2.size))
 clear y0 y1 y2 y3 hb2 hb3;go_wp2_with fail;go_quiet (fail)
 obtain ⟨wQ,hwQ⟩:∃ y,w3.drewN nq=y:=⟨_,rfl⟩
 have hbq:Below w3.heap.size w3 wQ:=by rw [← hwQ];exact belowN (Below.refl _ _) _
 rw [hwQ];clear hwQ;replace c9:=cel0 hbq c9
 have HB3:=Lib.hid (HB30.out.trans (hbq.mono HB30.out.size))
 have ML3:=Lib.hid (HL1.out.below HB3.out)
 clear HB30 hbq;go_wp2_with fail
 refine (twin_any ML3.out).mono ?_
 rintro e wC ⟨h2,rfl,m2,g2,_,hb4⟩
 have HBC:=Lib.hid (HB3.out.trans (hb4.mono HB3.out.size))
 have M2:=Lib.hid m2;have G2:=Lib.hid g2
 have hcs:w1.heap.size=w.heap.size+2:=by rw [← HW1.out];simp
 have HN:Hid (∀ k,k < w.heap.size+2→¬ h2.own k):=fun k hk ho=>by have:=G2.out k ho;have:=HB3.out.size;omega
 have HCR0:=Lib.hid ((HBC.out.block w.heap.size (by omega)).trans HR0.out)
 have HCR1:=Lib.hid ((HBC.out.block (w.heap.size+1) (by omega)).trans HR1.out)
 have HCZ:Hid (w.heap.size+2≤wC.heap.size):=by show _≤_;have:=HBC.out.size;omega
 have HDC:=Lib.hid (HDD.out.below HBC.out)
 have HPC:=Lib.hid (HPP.out.below HBC.out)
 have HRC:=Lib.hid (HRD.out.below HBC.out)
 have HNX2:Hid (∀ x,ta=some x→0 < tn→¬ (No x.block∨h2.own x.block)):=fun x hx h0 e=>by
  rcases e with e | e
  ·exact HNX.out x hx h0 e
  ·have:=G2.out _ e;have:=HRD.out.lt x hx h0;have:=HB3.out.size;omega
 have i0:Tn h2.own wC wC.drew:=Tn.of (Below.refl _ _).drew
 have i3:McIn wC.drew (fun k=>No k∨h2.own k) h2 M∧RdAt .u8 wC.drew ta tn tc A.data:=⟨M2.out.below (Below.refl _ _).drew,HRC.out.below (Below.refl _ _).drew⟩
 clear c9 m2 g2 hb4 hcs;go_wp2_with fail
 refine' reg_order [eqV _,eqV _,eqV _,(fun v w5=>∃ da5 dc5 pa5 pc5,v=Value.agg #[.int .i64 AN.err,.int .i64 AN.pid,.slice da5 AN.data.length dc5,.slice pa5 AN.pids.length pc5]∧RdAt .u8 w5 da5 AN.data.length dc5 AN.data∧RdAt .i64 w5 pa5 AN.pids.length pc5 AN.pids∧McIn w5 (fun k=>No k∨h2.own k) h2 (stepM M A.o)),(fun v w5=>v=Value.bool true∧McIn w5 (fun k=>No k∨h2.own k) h2 (stepM M A.o)),(fun v w5=>v=Value.bool false∧McIn w5 (fun k=>No k∨h2.own k) h2 (stepM M A.o))] [(3,fun w5 w6=>Tn h2.own w5 w6)] [(0,fun w5=>Tn h2.own wC w5),(2,fun w5=>Tn h2.own wC w5),(3,fun w5=>McIn w5 (fun k=>No k∨h2.own k) h2 M∧RdAt .u8 w5 ta tn tc A.data),(4,fun w5=>Tn h2.own wC w5),(6,fun w5=>Tn h2.own wC w5)] [48,49,50,51,52,53] [[],[],[],[1,2],[0,3],[4]] [0,1,2,3,4,5] 6 (by kernel_rfl) ⟨eS _,eS _,eS _,fun _ _ _ p b=>by obtain ⟨a,b1,c1,d,e,p1,p2,p3⟩:=p;exact ⟨a,b1,c1,d,e,p1.below b,p2.below b,p3.below b⟩,fun _ _ _ p b=>⟨p.1,p.2.below b⟩,fun _ _ _ p b=>⟨p.1,p.2.below b⟩,trivial⟩ ⟨⟨.inl (eS _),.inl (eS _),.inl (eS _),.inr (.inr rfl),.inr (.inl (by kernel_rfl)),.inr (.inl (by kernel_rfl)),trivial⟩,trivial⟩ ⟨fun _ _ p b=>Tn.call p b,fun _ _ p b=>Tn.call p b,fun _ _ p b=>⟨p.1.below b,p.2.below b⟩,fun _ _ p b=>Tn.call p b,fun _ _ p b=>Tn.call p b,trivial⟩ ⟨⟨.inl (fun _ _ p g=>Tn.trans p g),.inr (.inl (by kernel_rfl)),.inr (.inr rfl),.inl (fun _ _ p g=>Tn.trans p g),.inl (fun _ _ p g=>Tn.trans p g),trivial⟩,trivial⟩ ⟨i0,i0,i3,i0,i0,trivial⟩ 58 rfl (by kernel_rfl) (by kernel_rfl) rfl rfl 6 rfl ?q1obl ?q1fin
 case q1obl=>
  refine ⟨?q1o0,?q1o1,?q1o2,?q1o3,?q1o4,?q1o5,trivial⟩
  case q1o0=>
   intro w1 hI
   replace hI:(fun w5=>Tn h2.own wC w5) w1:=hI
   refine t2o (by rfl) ?_;intro K hK
   have zr:=(hI.block (w.heap.size+1) (by have:=HCZ.out;omega) (HN.out _ (by omega))).trans HCR1.out
   obtain ⟨y0,y1,y2,y3⟩:=cells4a zr
   go_simp;refine hK _ _ ⟨rfl,Kept.refl _,?_⟩;show _=_;simp only [gv1];rfl
  case q1o1=>
   intro w1 hI;refine t2o (by rfl) ?_;intro K hK;go_simp;refine hK _ _ ⟨rfl,Kept.refl _,?_⟩;show _=_;simp only [gv1];rfl
  case q1o2=>
   intro w1 hI
   replace hI:(fun w5=>Tn h2.own wC w5) w1:=hI
   refine t2o (by rfl) ?_;intro K hK
   have zr:=(hI.block w.heap.size (by have:=HCZ.out;omega) (HN.out _ (by omega))).trans HCR0.out
   obtain ⟨y0,y1,y2,y3,y4,y5⟩:=cells6 zr
   go_simp;refine hK _ _ ⟨rfl,Kept.refl _,?_⟩;show _=_;simp only [gv1];rfl
  case q1o3=>
   intro w1 hI
   replace hI:(fun w5=>McIn w5 (fun k=>No k∨h2.own k) h2 M∧RdAt .u8 w5 ta tn tc A.data) w1:=hI
   intro v1 h1;change _=_ at h1;subst v1;intro v2 h2;change _=_ at h2;subst v2;refine t2o (by rfl) ?_;intro K hK;simp only [gv2];go_simp
   refine Calls.mono (do_any hI.1 A.o ta tn tc HWF.out.2.1 HWF.out.2.2.1 HWF.out.2.2.2.1 hI.2 HNX2.out) ?_
   rintro e w9 ⟨dv,pv,rfl,hod,hop,hm9,ht9⟩
   rw [HAN.out] at hod hop
   obtain ⟨da5,dc5,rfl⟩:=hod.shape
   obtain ⟨pa5,pc5,rfl⟩:=hop.shape
   refine hK _ _ ⟨rfl,ht9,?_⟩
   rw [HAN.out]
   exact ⟨da5,dc5,pa5,pc5,rfl,hod.rd,hop.rd,hm9⟩
  case q1o4=>
   intro w1 hI
   replace hI:(fun w5=>Tn h2.own wC w5) w1:=hI
   intro v0 h0;change _=_ at h0;subst v0;intro v3 h3
   obtain ⟨da5,dc5,pa5,pc5,rfl,d5,p5,m5⟩:=h3
   refine t2o (by rfl) ?_;intro K hK;simp only [gv2]
   have hd0:RdAt .u8 _ da n0 dc AN.data:=HDC.out.tn hI (fun x hx h0 e=>by have:=HDD.out.lt x hx h0;have:=G2.out _ e;have:=HB3.out.size;omega)
   have hp0:RdAt .i64 _ pa m0 pc AN.pids:=HPC.out.tn hI (fun x hx h0 e=>by have:=HPP.out.lt x hx h0;have:=G2.out _ e;have:=HB3.out.size;omega)
   have hq:=dsame_any AN.err AN.pid AN.err AN.pid da da5 pa pa5 n0 AN.data.length m0 AN.pids.length dc dc5 pc pc5 AN.data AN.data AN.pids AN.pids _ hd0 d5 hp0 p5 ⟨by have:=HPL.out;omega,by have:=HPL.out;have:=hp0.len;omega⟩
   rw [decide_eq_true ⟨rfl,rfl,rfl,rfl⟩] at hq;go_simp
   refine Calls.mono hq ?_
   rintro e w9 ⟨rfl,hb9⟩
   refine hK _ _ ⟨rfl,hb9,?_⟩
   exact ⟨rfl,m5.below hb9⟩
  case q1o5=>
   intro w1 hI;intro v4 h4
   obtain ⟨rfl,m6⟩:=h4
   refine t2o (by rfl) ?_;intro K hK;simp only [gv2];go_simp;refine hK _ _ ⟨rfl,Kept.refl _,?_⟩
   exact ⟨rfl,m6⟩
 intro w5 hI
 replace hI:(fun w5=>Tn h2.own wC w5) w5:=hI
 intro v0 h0;change _=_ at h0;subst v0;intro v1 h1;change _=_ at h1;subst v1;intro v2 h2;change _=_ at h2;subst v2;intro v3 h3
 obtain ⟨da5,dc5,pa5,pc5,rfl,d5,p5,m5⟩:=h3
 intro v4 h4
 obtain ⟨rfl,m6⟩:=h4
 intro v5 h5
 obtain ⟨rfl,m7⟩:=h5
 simp only [Given,gv2]
 have hT:Tn h2.own wC w5:=hI
 have hW:Below w.heap.size w w5:=(HB.out.trans (HBC.out.mono HB.out.size)).trans (hT.below (B:=w.heap.size) (fun k hk=>HN.out k (by omega)) (by have:=HCZ.out;omega))
 have hge:∀ k,h2.own k→w.heap.size≤k:=fun k hk=>by
  by_cases e:k < w.heap.size+2
  ·exact (HN.out k e hk).elim
  ·omega
 have s5:Ptys w0 w5 (PS.set 1 (mcP h2 (stepM M A.o))) O:=Ptys.step HS.out.dj HS.out.bel HQ1.out HQ2.out HQ3.out HQ4.out 1 HI1.out (P':=mcP h2 (stepM M A.o)) m7 (Tn.of hW) (fun k hk=>.inl hk) (fun k hk=>hk.imp id (hge k)) m7.lt (fun k hk=>.inr (hge k hk))
 have hS5:(PS.set 1 (mcP h2 (stepM M A.o)))[0]?=some (duP b c (some hL.m) sv ep pd db):=by rw [List.getElem?_set];simp;exact HI.out
 have S5:=Lib.hid s5;have HS5:=Lib.hid hS5
 have D5:=Lib.hid (s5.du hS5)
 have k9:=D5.out.cells.1
 have f9:=frozen_of_row w5 b 9 _ _ D5.out.row
 clear hT hW hge s5 hS5 hI;go_wp2_with fail
 go_ret
 exact ⟨h2,rfl,S5.out.turn 0 HS5.out (tn_set w5 b 9 _) (heap_setCell_same w5 b 9 _ _ (ov (some h2.m)) D5.out.row)⟩
end
end Go.Proofs.YtoepnbfifjgpfaaGreat
