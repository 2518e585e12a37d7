/- The machine: whether an operation has just its kind's fields. -/
import Derived.Test.YtoepnbfifjgpfaaGreatMu0
import Derived.Test.YtoepnbfifjgpfaaGreatMu15
import Derived.Test.YtoepnbfifjgpfaaGreatMu3
import Derived.Test.YtoepnbfifjgpfaaGreatMu10
import Derived.WalkKit
import Derived.ProofKit
import Derived.BigQuiet
import Derived.Deep.QuietTactic
import Derived.Lib.Hide
import Derived.RegionTactic
namespace Go.Proofs.YtoepnbfifjgpfaaGreat
set_option maxRecDepth 100000
open Go.RowKit
set_option linter.unusedSimpArgs false
/-- One cell stored. -/
def Wr (b i:Nat) (w w':World):Prop:=∃ x,w'=w.setCell ⟨b,i,none⟩ x
theorem Wr.other {b i c:Nat} {w w':World} {o:Obj} (h:Wr b i w w') (hc:w.heap[c]?=some o) (hne:c ≠ b):w'.heap[c]?=some o:=by
 obtain ⟨x,rfl⟩:=h
 exact (heap_setCell_other w ⟨b,i,none⟩ c x (fun e=>hne (by simpa using e))).trans hc
theorem Wr.cell {b i j:Nat} {w w':World} {v:Value} (h:Wr b i w w') (hc:w.cell? ⟨b,j,none⟩=some v) (hne:j ≠ i):w'.cell? ⟨b,j,none⟩=some v:=by
 obtain ⟨x,rfl⟩:=h
 exact (World.cell?_setCell_other w ⟨b,i,none⟩ ⟨b,j,none⟩ x (fun e=>hne (by simpa using e.symm))).trans hc
/-- A row of six cells. -/
def Row6 (T:TypeId) (b:Nat) (w:World):Prop:=∃ x0 x1 x2 x3 x4 x5,w.heap[b]?=some (.cells #[x0,x1,x2,x3,x4,x5] T (0,0))
theorem Wr.row6 {T:TypeId} {b i:Nat} {w w':World} (h:Wr b i w w') (hr:Row6 T b w) (hi:i < 6):Row6 T b w':=by
 obtain ⟨x,rfl⟩:=h
 obtain ⟨x0,x1,x2,x3,x4,x5,hr⟩:=hr
 have:=heap_setCell_same w b i _ T x hr
 match i,hi with
 | 0,_=>exact ⟨_,_,_,_,_,_,this⟩
 | 1,_=>exact ⟨_,_,_,_,_,_,this⟩
 | 2,_=>exact ⟨_,_,_,_,_,_,this⟩
 | 3,_=>exact ⟨_,_,_,_,_,_,this⟩
 | 4,_=>exact ⟨_,_,_,_,_,_,this⟩
 | 5,_=>exact ⟨_,_,_,_,_,_,this⟩
theorem Row6.keep {T:TypeId} {b:Nat} {w w':World} (hr:Row6 T b w) (h:Kept w w'):Row6 T b w':=by
 obtain ⟨x0,x1,x2,x3,x4,x5,hr⟩:=hr
 exact ⟨x0,x1,x2,x3,x4,x5,row_keep hr h⟩
theorem Row6.set {T:TypeId} {b i:Nat} {w:World} (hr:Row6 T b w) (hi:i < 6) (x:Value):(w.setCell ⟨b,i,none⟩ x).cell? ⟨b,i,none⟩=some x∧w.frozen? ⟨b,i,none⟩=false∧∃ y,w.cell? ⟨b,i,none⟩=some y:=by
 obtain ⟨x0,x1,x2,x3,x4,x5,hr⟩:=hr
 have h1:=heap_setCell_same w b i _ T x hr
 refine ⟨?_,frozen_of_row w b i _ _ hr,?_⟩
 ·match i,hi with
  | 0,_=>exact cell_of_row _ b 0 _ _ _ h1
  | 1,_=>exact cell_of_row _ b 1 _ _ _ h1
  | 2,_=>exact cell_of_row _ b 2 _ _ _ h1
  | 3,_=>exact cell_of_row _ b 3 _ _ _ h1
  | 4,_=>exact cell_of_row _ b 4 _ _ _ h1
  | 5,_=>exact cell_of_row _ b 5 _ _ _ h1
 ·match i,hi with
  | 0,_=>exact ⟨_,cell_of_row _ b 0 _ _ _ hr⟩
  | 1,_=>exact ⟨_,cell_of_row _ b 1 _ _ _ hr⟩
  | 2,_=>exact ⟨_,cell_of_row _ b 2 _ _ _ hr⟩
  | 3,_=>exact ⟨_,cell_of_row _ b 3 _ _ _ hr⟩
  | 4,_=>exact ⟨_,cell_of_row _ b 4 _ _ _ hr⟩
  | 5,_=>exact ⟨_,cell_of_row _ b 5 _ _ _ hr⟩
theorem al2_0 (w:World) (o1 o2:Obj):((w.alloc o1).alloc o2).heap[w.heap.size]?=some o1:=(heap_alloc_old _ _ (by simp)).trans (heap_alloc_new w o1)
theorem al2_1 (w:World) (o1 o2:Obj):((w.alloc o1).alloc o2).heap[w.heap.size+1]?=some o2:=by
 have:=heap_alloc_new (w.alloc o1) o2
 simpa using this
theorem cells6 {w:World} {b T:Nat} {x0 x1 x2 x3 x4 x5:Value} (h:w.heap[b]?=some (.cells #[x0,x1,x2,x3,x4,x5] T (0,0))):w.cell? ⟨b,0,none⟩=some x0∧w.cell? ⟨b,1,none⟩=some x1∧w.cell? ⟨b,2,none⟩=some x2∧w.cell? ⟨b,3,none⟩=some x3∧w.cell? ⟨b,4,none⟩=some x4∧w.cell? ⟨b,5,none⟩=some x5:=
 ⟨cell_of_row w b 0 _ _ _ h,cell_of_row w b 1 _ _ _ h,cell_of_row w b 2 _ _ _ h,cell_of_row w b 3 _ _ _ h,cell_of_row w b 4 _ _ _ h,cell_of_row w b 5 _ _ _ h⟩
/-- While an operation's copy is filled. -/
structure RtI (w:World) (row:Array Value) (v0 v4:Value) (j:Nat) (vx:Value) (w5:World):Prop where
 row:w5.heap[w.heap.size]?=some (.cells row 39 (0,0))
 c0:w5.cell? ⟨w.heap.size+1,0,none⟩=some v0
 c4:w5.cell? ⟨w.heap.size+1,4,none⟩=some v4
 cx:w5.cell? ⟨w.heap.size+1,j,none⟩=some vx
 bel:Below w.heap.size w w5
theorem RtI.keep {w:World} {row:Array Value} {v0 v4:Value} {j:Nat} {vx:Value} {w5 w6:World} (h:RtI w row v0 v4 j vx w5) (k:Kept w5 w6):RtI w row v0 v4 j vx w6:=
 ⟨row_keep h.row k,cel k h.c0,cel k h.c4,cel k h.cx,Below.call h.bel k⟩
theorem RtI.wr {w:World} {row:Array Value} {v0 v4:Value} {i j:Nat} {vx:Value} {w5 w6:World} (h:RtI w row v0 v4 j vx w5) (k:Wr (w.heap.size+1) i w5 w6) (hi:i ≠ 0∧i ≠ 4∧i ≠ j):RtI w row v0 v4 j vx w6:=
 ⟨k.other h.row (by omega),k.cell h.c0 (by omega),k.cell h.c4 (by omega),k.cell h.cx (by omega),by
  obtain ⟨x,rfl⟩:=k
  have g:=cell_grown1 w5 (w.heap.size+1) i x
  exact ⟨g.os.trans h.bel.os,g.tape.trans h.bel.tape,g.output.trans h.bel.output,Nat.le_trans h.bel.size g.size,fun q hq=>(g.block q (Nat.lt_of_lt_of_le hq h.bel.size) (fun e=>by injection e with e;omega)).trans (h.bel.block q hq)⟩⟩
theorem rti_start (w:World) (row:Array Value) (k:Int) (j:Nat) {vx:Value} (hj:j < 6) (hx:(#[.int .i64 k,.int .i64 0,.int .i64 0,.int .i64 0,.int .i64 0,.slice none 0 0]:Array Value)[j]?=some vx) :
  RtI w row (.int .i64 k) (.int .i64 0) j vx (World.drew ((w.alloc (.cells row 39)).alloc (.cells #[.int .i64 k,.int .i64 0,.int .i64 0,.int .i64 0,.int .i64 0,.slice none 0 0] 39))):=by
 have r1:=al2_1 w (.cells row 39) (.cells #[.int .i64 k,.int .i64 0,.int .i64 0,.int .i64 0,.int .i64 0,.slice none 0 0] 39)
 have r2:=cells6 r1
 refine ⟨al2_0 _ _ _,r2.1,r2.2.2.2.2.1,?_,?_⟩
 ·match j,hj with
  | 0,_=>injection hx with hx;subst hx;exact r2.1
  | 1,_=>injection hx with hx;subst hx;exact r2.2.1
  | 2,_=>injection hx with hx;subst hx;exact r2.2.2.1
  | 3,_=>injection hx with hx;subst hx;exact r2.2.2.2.1
  | 4,_=>injection hx with hx;subst hx;exact r2.2.2.2.2.1
  | 5,_=>injection hx with hx;subst hx;exact r2.2.2.2.2.2
 ·have b:=((Below.refl w.heap.size w).alloc (Nat.le_refl _) (.cells row 39)).alloc (by simp) (.cells #[.int .i64 k,.int .i64 0,.int .i64 0,.int .i64 0,.int .i64 0,.slice none 0 0] 39)
  exact ⟨b.os,b.tape,b.output,b.size,b.block⟩
section
variable (pid ad n pr:Int) (a:Option Addr) (dn dc:Nat) (w:World)
set_option maxHeartbeats 1000000 in
theorem right_1 (B:Bool) (hB:(decide (pid=0) && (decide (ad=0) && (decide (n=0) && (decide (pr=0) && decide (dn=0)))))=B):Calls Tryz.prog 62 #[.agg #[.int .i64 1,.int .i64 pid,.int .i64 ad,.int .i64 n,.int .i64 pr,.slice a dn dc]] w fun e w'=>e = .returned (.bool B)∧Below w.heap.size w w':=by
 by_cases c0:pid=0
 ·subst c0
  by_cases c1:ad=0
  ·subst c1
   by_cases c2:n=0
   ·subst c2
    by_cases c3:pr=0
    ·subst c3
     by_cases c4:dn=0
     ·subst c4
      obtain rfl:B=true:=by rw [← hB];simp
      clear hB
      go_enter Tryz.func62,Tryz.ntmps62
      go_wp2
      go_ret
      exact ⟨by first | rfl | (simp;omega),((Below.refl _ _).alloc (Nat.le_refl _) _).alloc (by simp) _⟩
     ·have f4:decide (dn=0)=false:=decide_eq_false c4
      have g4:decide ((0:Int)=(dn:Int))=false:=decide_eq_false (by omega)
      have k4:((0:Int) == (dn:Int))=false:=by simp;omega
      obtain rfl:B=false:=by rw [← hB];simp [c4]
      clear hB
      go_enter Tryz.func62,Tryz.ntmps62
      go_wp2
      go_ret
      exact ⟨by first | rfl | (simp;omega),((Below.refl _ _).alloc (Nat.le_refl _) _).alloc (by simp) _⟩
    ·have f3:decide (pr=0)=false:=decide_eq_false c3
     have g3:decide ((0:Int)=(pr:Int))=false:=decide_eq_false (by omega)
     have k3:((0:Int) == (pr:Int))=false:=by simp;omega
     obtain rfl:B=false:=by rw [← hB];simp [c3]
     clear hB
     go_enter Tryz.func62,Tryz.ntmps62
     go_wp2
     go_ret
     exact ⟨by first | rfl | (simp;omega),((Below.refl _ _).alloc (Nat.le_refl _) _).alloc (by simp) _⟩
   ·have f2:decide (n=0)=false:=decide_eq_false c2
    have g2:decide ((0:Int)=(n:Int))=false:=decide_eq_false (by omega)
    have k2:((0:Int) == (n:Int))=false:=by simp;omega
    obtain rfl:B=false:=by rw [← hB];simp [c2]
    clear hB
    go_enter Tryz.func62,Tryz.ntmps62
    go_wp2
    go_ret
    exact ⟨by first | rfl | (simp;omega),((Below.refl _ _).alloc (Nat.le_refl _) _).alloc (by simp) _⟩
  ·have f1:decide (ad=0)=false:=decide_eq_false c1
   have g1:decide ((0:Int)=(ad:Int))=false:=decide_eq_false (by omega)
   have k1:((0:Int) == (ad:Int))=false:=by simp;omega
   obtain rfl:B=false:=by rw [← hB];simp [c1]
   clear hB
   go_enter Tryz.func62,Tryz.ntmps62
   go_wp2
   go_ret
   exact ⟨by first | rfl | (simp;omega),((Below.refl _ _).alloc (Nat.le_refl _) _).alloc (by simp) _⟩
 ·have f0:decide (pid=0)=false:=decide_eq_false c0
  have g0:decide ((0:Int)=(pid:Int))=false:=decide_eq_false (by omega)
  have k0:((0:Int) == (pid:Int))=false:=by simp;omega
  obtain rfl:B=false:=by rw [← hB];simp [c0]
  clear hB
  go_enter Tryz.func62,Tryz.ntmps62
  go_wp2
  go_ret
  exact ⟨by first | rfl | (simp;omega),((Below.refl _ _).alloc (Nat.le_refl _) _).alloc (by simp) _⟩
set_option maxHeartbeats 1000000 in
theorem right_9 (B:Bool) (hB:(decide (pid=0) && (decide (ad=0) && (decide (n=0) && (decide (pr=0) && decide (dn=0)))))=B):Calls Tryz.prog 62 #[.agg #[.int .i64 9,.int .i64 pid,.int .i64 ad,.int .i64 n,.int .i64 pr,.slice a dn dc]] w fun e w'=>e = .returned (.bool B)∧Below w.heap.size w w':=by
 by_cases c0:pid=0
 ·subst c0
  by_cases c1:ad=0
  ·subst c1
   by_cases c2:n=0
   ·subst c2
    by_cases c3:pr=0
    ·subst c3
     by_cases c4:dn=0
     ·subst c4
      obtain rfl:B=true:=by rw [← hB];simp
      clear hB
      go_enter Tryz.func62,Tryz.ntmps62
      go_wp2
      go_ret
      exact ⟨by first | rfl | (simp;omega),((Below.refl _ _).alloc (Nat.le_refl _) _).alloc (by simp) _⟩
     ·have f4:decide (dn=0)=false:=decide_eq_false c4
      have g4:decide ((0:Int)=(dn:Int))=false:=decide_eq_false (by omega)
      have k4:((0:Int) == (dn:Int))=false:=by simp;omega
      obtain rfl:B=false:=by rw [← hB];simp [c4]
      clear hB
      go_enter Tryz.func62,Tryz.ntmps62
      go_wp2
      go_ret
      exact ⟨by first | rfl | (simp;omega),((Below.refl _ _).alloc (Nat.le_refl _) _).alloc (by simp) _⟩
    ·have f3:decide (pr=0)=false:=decide_eq_false c3
     have g3:decide ((0:Int)=(pr:Int))=false:=decide_eq_false (by omega)
     have k3:((0:Int) == (pr:Int))=false:=by simp;omega
     obtain rfl:B=false:=by rw [← hB];simp [c3]
     clear hB
     go_enter Tryz.func62,Tryz.ntmps62
     go_wp2
     go_ret
     exact ⟨by first | rfl | (simp;omega),((Below.refl _ _).alloc (Nat.le_refl _) _).alloc (by simp) _⟩
   ·have f2:decide (n=0)=false:=decide_eq_false c2
    have g2:decide ((0:Int)=(n:Int))=false:=decide_eq_false (by omega)
    have k2:((0:Int) == (n:Int))=false:=by simp;omega
    obtain rfl:B=false:=by rw [← hB];simp [c2]
    clear hB
    go_enter Tryz.func62,Tryz.ntmps62
    go_wp2
    go_ret
    exact ⟨by first | rfl | (simp;omega),((Below.refl _ _).alloc (Nat.le_refl _) _).alloc (by simp) _⟩
  ·have f1:decide (ad=0)=false:=decide_eq_false c1
   have g1:decide ((0:Int)=(ad:Int))=false:=decide_eq_false (by omega)
   have k1:((0:Int) == (ad:Int))=false:=by simp;omega
   obtain rfl:B=false:=by rw [← hB];simp [c1]
   clear hB
   go_enter Tryz.func62,Tryz.ntmps62
   go_wp2
   go_ret
   exact ⟨by first | rfl | (simp;omega),((Below.refl _ _).alloc (Nat.le_refl _) _).alloc (by simp) _⟩
 ·have f0:decide (pid=0)=false:=decide_eq_false c0
  have g0:decide ((0:Int)=(pid:Int))=false:=decide_eq_false (by omega)
  have k0:((0:Int) == (pid:Int))=false:=by simp;omega
  obtain rfl:B=false:=by rw [← hB];simp [c0]
  clear hB
  go_enter Tryz.func62,Tryz.ntmps62
  go_wp2
  go_ret
  exact ⟨by first | rfl | (simp;omega),((Below.refl _ _).alloc (Nat.le_refl _) _).alloc (by simp) _⟩
set_option maxHeartbeats 1000000 in
theorem right_2 (B:Bool) (hB:decide (dn=0)=B):Calls Tryz.prog 62 #[.agg #[.int .i64 2,.int .i64 pid,.int .i64 ad,.int .i64 n,.int .i64 pr,.slice a dn dc]] w fun e w'=>e = .returned (.bool B)∧Below w.heap.size w w':=by
 by_cases c0:dn=0
 ·subst c0
  obtain rfl:B=true:=by rw [← hB];simp
  clear hB
  go_enter Tryz.func62,Tryz.ntmps62
  go_wp2
  go_ret
  exact ⟨by first | rfl | (simp;omega),((Below.refl _ _).alloc (Nat.le_refl _) _).alloc (by simp) _⟩
 ·have f0:decide (dn=0)=false:=decide_eq_false c0
  have g0:decide ((0:Int)=(dn:Int))=false:=decide_eq_false (by omega)
  have k0:((0:Int) == (dn:Int))=false:=by simp;omega
  obtain rfl:B=false:=by rw [← hB];simp [c0]
  clear hB
  go_enter Tryz.func62,Tryz.ntmps62
  go_wp2
  go_ret
  exact ⟨by first | rfl | (simp;omega),((Below.refl _ _).alloc (Nat.le_refl _) _).alloc (by simp) _⟩
set_option maxHeartbeats 1000000 in
theorem right_4 (B:Bool) (hB:decide (dn=0)=B):Calls Tryz.prog 62 #[.agg #[.int .i64 4,.int .i64 pid,.int .i64 ad,.int .i64 n,.int .i64 pr,.slice a dn dc]] w fun e w'=>e = .returned (.bool B)∧Below w.heap.size w w':=by
 by_cases c0:dn=0
 ·subst c0
  obtain rfl:B=true:=by rw [← hB];simp
  clear hB
  go_enter Tryz.func62,Tryz.ntmps62
  go_wp2
  go_ret
  exact ⟨by first | rfl | (simp;omega),((Below.refl _ _).alloc (Nat.le_refl _) _).alloc (by simp) _⟩
 ·have f0:decide (dn=0)=false:=decide_eq_false c0
  have g0:decide ((0:Int)=(dn:Int))=false:=decide_eq_false (by omega)
  have k0:((0:Int) == (dn:Int))=false:=by simp;omega
  obtain rfl:B=false:=by rw [← hB];simp [c0]
  clear hB
  go_enter Tryz.func62,Tryz.ntmps62
  go_wp2
  go_ret
  exact ⟨by first | rfl | (simp;omega),((Below.refl _ _).alloc (Nat.le_refl _) _).alloc (by simp) _⟩
set_option maxHeartbeats 1000000 in
theorem right_3 (B:Bool) (hB:(decide (pr=0) && decide (dn=0))=B):Calls Tryz.prog 62 #[.agg #[.int .i64 3,.int .i64 pid,.int .i64 ad,.int .i64 n,.int .i64 pr,.slice a dn dc]] w fun e w'=>e = .returned (.bool B)∧Below w.heap.size w w':=by
 by_cases c0:pr=0
 ·subst c0
  by_cases c1:dn=0
  ·subst c1
   obtain rfl:B=true:=by rw [← hB];simp
   clear hB
   go_enter Tryz.func62,Tryz.ntmps62
   go_wp2_with fail
   have hb0:(World.drew ((w.alloc (.cells #[.int .i64 3,.int .i64 pid,.int .i64 ad,.int .i64 n,.int .i64 0,.slice a 0 dc] 39)).alloc (.cells #[.int .i64 3,.int .i64 0,.int .i64 0,.int .i64 0,.int .i64 0,.slice none 0 0] 39))).heap[w.heap.size]?=some (.cells #[.int .i64 3,.int .i64 pid,.int .i64 ad,.int .i64 n,.int .i64 0,.slice a 0 dc] 39 (0,0)):=al2_0 _ _ _
   have hr6:Row6 39 (w.heap.size+1) (World.drew ((w.alloc (.cells #[.int .i64 3,.int .i64 pid,.int .i64 ad,.int .i64 n,.int .i64 0,.slice a 0 dc] 39)).alloc (.cells #[.int .i64 3,.int .i64 0,.int .i64 0,.int .i64 0,.int .i64 0,.slice none 0 0] 39))):=⟨_,_,_,_,_,_,al2_1 _ _ _⟩
   have hri:RtI w #[.int .i64 3,.int .i64 pid,.int .i64 ad,.int .i64 n,.int .i64 0,.slice a 0 dc] (.int .i64 3) (.int .i64 0) 5 (.slice none 0 0) (World.drew ((w.alloc (.cells #[.int .i64 3,.int .i64 pid,.int .i64 ad,.int .i64 n,.int .i64 0,.slice a 0 dc] 39)).alloc (.cells #[.int .i64 3,.int .i64 0,.int .i64 0,.int .i64 0,.int .i64 0,.slice none 0 0] 39))):=rti_start _ _ _ _ (by decide) rfl
   refine' reg_order [eqV _,eqV _,eqV _,eqV _,eqV _,eqV _,eqV _,(fun _ w5=>w5.cell? ⟨(w.heap.size+1),1,none⟩=some (.int .i64 pid)),eqV _,(fun _ w5=>w5.cell? ⟨(w.heap.size+1),2,none⟩=some (.int .i64 ad)),eqV _,(fun _ w5=>w5.cell? ⟨(w.heap.size+1),3,none⟩=some (.int .i64 n))] [(7,fun w5 w6=>Wr (w.heap.size+1) 1 w5 w6),(9,fun w5 w6=>Wr (w.heap.size+1) 2 w5 w6),(11,fun w5 w6=>Wr (w.heap.size+1) 3 w5 w6)] [(1,fun w5=>w5.heap[w.heap.size]?=some (.cells #[.int .i64 3,.int .i64 pid,.int .i64 ad,.int .i64 n,.int .i64 0,.slice a 0 dc] 39 (0,0))),(3,fun w5=>w5.heap[w.heap.size]?=some (.cells #[.int .i64 3,.int .i64 pid,.int .i64 ad,.int .i64 n,.int .i64 0,.slice a 0 dc] 39 (0,0))),(5,fun w5=>w5.heap[w.heap.size]?=some (.cells #[.int .i64 3,.int .i64 pid,.int .i64 ad,.int .i64 n,.int .i64 0,.slice a 0 dc] 39 (0,0))),(7,fun w5=>Row6 39 (w.heap.size+1) w5),(9,fun w5=>Row6 39 (w.heap.size+1) w5),(11,fun w5=>Row6 39 (w.heap.size+1) w5),(12,fun w5=>RtI w #[.int .i64 3,.int .i64 pid,.int .i64 ad,.int .i64 n,.int .i64 0,.slice a 0 dc] (.int .i64 3) (.int .i64 0) 5 (.slice none 0 0) w5)] [20,21,22,23,24,25,26,88,27,90,28,92] [[],[0],[],[2],[],[4],[],[1,6],[],[3,8],[],[5,10]] [0,1,2,3,4,5,6,7,8,9,10,11] 12 (by kernel_rfl) ⟨eS _,eS _,eS _,eS _,eS _,eS _,eS _,fun _ _ _ p b=>cel b p,eS _,fun _ _ _ p b=>cel b p,eS _,fun _ _ _ p b=>cel b p,trivial⟩ ⟨⟨.inl (eS _),.inl (eS _),.inl (eS _),.inl (eS _),.inl (eS _),.inl (eS _),.inl (eS _),.inr (.inr rfl),.inl (eS _),.inr (.inl (by kernel_rfl)),.inl (eS _),.inr (.inl (by kernel_rfl)),trivial⟩,⟨.inl (eS _),.inl (eS _),.inl (eS _),.inl (eS _),.inl (eS _),.inl (eS _),.inl (eS _),.inl (fun _ _ _ p g=>Wr.cell g p (by decide)),.inl (eS _),.inr (.inr rfl),.inl (eS _),.inr (.inl (by kernel_rfl)),trivial⟩,⟨.inl (eS _),.inl (eS _),.inl (eS _),.inl (eS _),.inl (eS _),.inl (eS _),.inl (eS _),.inl (fun _ _ _ p g=>Wr.cell g p (by decide)),.inl (eS _),.inl (fun _ _ _ p g=>Wr.cell g p (by decide)),.inl (eS _),.inr (.inr rfl),trivial⟩,trivial⟩ ⟨fun _ _ p b=>row_keep p b,fun _ _ p b=>row_keep p b,fun _ _ p b=>row_keep p b,fun _ _ p b=>Row6.keep p b,fun _ _ p b=>Row6.keep p b,fun _ _ p b=>Row6.keep p b,fun _ _ p b=>RtI.keep p b,trivial⟩ ⟨⟨.inr (.inl (by kernel_rfl)),.inl (fun _ _ p g=>Wr.other g p (by omega)),.inl (fun _ _ p g=>Wr.other g p (by omega)),.inr (.inr rfl),.inl (fun _ _ p g=>Wr.row6 g p (by decide)),.inl (fun _ _ p g=>Wr.row6 g p (by decide)),.inl (fun _ _ p g=>RtI.wr p g (by decide)),trivial⟩,⟨.inr (.inl (by kernel_rfl)),.inr (.inl (by kernel_rfl)),.inl (fun _ _ p g=>Wr.other g p (by omega)),.inr (.inl (by kernel_rfl)),.inr (.inr rfl),.inl (fun _ _ p g=>Wr.row6 g p (by decide)),.inl (fun _ _ p g=>RtI.wr p g (by decide)),trivial⟩,⟨.inr (.inl (by kernel_rfl)),.inr (.inl (by kernel_rfl)),.inr (.inl (by kernel_rfl)),.inr (.inl (by kernel_rfl)),.inr (.inl (by kernel_rfl)),.inr (.inr rfl),.inl (fun _ _ p g=>RtI.wr p g (by decide)),trivial⟩,trivial⟩ ⟨hb0,hb0,hb0,hr6,hr6,hr6,hri,trivial⟩ 81 rfl (by kernel_rfl) (by kernel_rfl) rfl rfl 12 rfl ?q1obl ?q1fin
   case q1obl=>
    refine ⟨?q1o0,?q1o1,?q1o2,?q1o3,?q1o4,?q1o5,?q1o6,?q1o7,?q1o8,?q1o9,?q1o10,?q1o11,trivial⟩
    case q1o0 | q1o2 | q1o4 | q1o6 | q1o8 | q1o10=>
     intro w1 hI;refine t2o (by rfl) ?_;intro K hK;go_simp;refine hK _ _ ⟨rfl,Kept.refl _,?_⟩;show _=_;simp only [gv1];rfl
    case q1o1=>
     intro w1 hI
     replace hI:(fun w5=>w5.heap[w.heap.size]?=some (.cells #[.int .i64 3,.int .i64 pid,.int .i64 ad,.int .i64 n,.int .i64 0,.slice a 0 dc] 39 (0,0))) w1:=hI
     intro v0 h0;change _=_ at h0;subst v0;refine t2o (by rfl) ?_;intro K hK;simp only [gv2]
     have hc:=cell_of_row w1 w.heap.size 1 _ _ _ hI
     go_simp;refine hK _ _ ⟨rfl,Kept.refl _,?_⟩;show _=_;simp only [gv1];rfl
    case q1o3=>
     intro w1 hI
     replace hI:(fun w5=>w5.heap[w.heap.size]?=some (.cells #[.int .i64 3,.int .i64 pid,.int .i64 ad,.int .i64 n,.int .i64 0,.slice a 0 dc] 39 (0,0))) w1:=hI
     intro v2 h2;change _=_ at h2;subst v2;refine t2o (by rfl) ?_;intro K hK;simp only [gv2]
     have hc:=cell_of_row w1 w.heap.size 2 _ _ _ hI
     go_simp;refine hK _ _ ⟨rfl,Kept.refl _,?_⟩;show _=_;simp only [gv1];rfl
    case q1o5=>
     intro w1 hI
     replace hI:(fun w5=>w5.heap[w.heap.size]?=some (.cells #[.int .i64 3,.int .i64 pid,.int .i64 ad,.int .i64 n,.int .i64 0,.slice a 0 dc] 39 (0,0))) w1:=hI
     intro v4 h4;change _=_ at h4;subst v4;refine t2o (by rfl) ?_;intro K hK;simp only [gv2]
     have hc:=cell_of_row w1 w.heap.size 3 _ _ _ hI
     go_simp;refine hK _ _ ⟨rfl,Kept.refl _,?_⟩;show _=_;simp only [gv1];rfl
    case q1o7=>
     intro w1 hI
     replace hI:(fun w5=>Row6 39 (w.heap.size+1) w5) w1:=hI
     intro v1 h1;change _=_ at h1;subst v1;intro v6 h6;change _=_ at h6;subst v6;refine t2o (by rfl) ?_;intro K hK;simp only [gv2]
     obtain ⟨e1,e2,y,e3⟩:=Row6.set hI (i:=1) (by decide) (.int .i64 pid)
     go_simp
     refine hK _ _ ⟨rfl,⟨_,rfl⟩,?_⟩
     exact e1
    case q1o9=>
     intro w1 hI
     replace hI:(fun w5=>Row6 39 (w.heap.size+1) w5) w1:=hI
     intro v3 h3;change _=_ at h3;subst v3;intro v8 h8;change _=_ at h8;subst v8;refine t2o (by rfl) ?_;intro K hK;simp only [gv2]
     obtain ⟨e1,e2,y,e3⟩:=Row6.set hI (i:=2) (by decide) (.int .i64 ad)
     go_simp
     refine hK _ _ ⟨rfl,⟨_,rfl⟩,?_⟩
     exact e1
    case q1o11=>
     intro w1 hI
     replace hI:(fun w5=>Row6 39 (w.heap.size+1) w5) w1:=hI
     intro v5 h5;change _=_ at h5;subst v5;intro v10 h10;change _=_ at h10;subst v10;refine t2o (by rfl) ?_;intro K hK;simp only [gv2]
     obtain ⟨e1,e2,y,e3⟩:=Row6.set hI (i:=3) (by decide) (.int .i64 n)
     go_simp
     refine hK _ _ ⟨rfl,⟨_,rfl⟩,?_⟩
     exact e1
   intro w9 hI
   replace hI:(fun w5=>RtI w #[.int .i64 3,.int .i64 pid,.int .i64 ad,.int .i64 n,.int .i64 0,.slice a 0 dc] (.int .i64 3) (.int .i64 0) 5 (.slice none 0 0) w5) w9:=hI
   intro v0 h0;change _=_ at h0;subst v0;intro v1 h1;change _=_ at h1;subst v1;intro v2 h2;change _=_ at h2;subst v2;intro v3 h3;change _=_ at h3;subst v3;intro v4 h4;change _=_ at h4;subst v4;intro v5 h5;change _=_ at h5;subst v5;intro v6 h6;change _=_ at h6;subst v6;intro v7 h7;change _=_ at h7;intro v8 h8;change _=_ at h8;subst v8;intro v9 h9;change _=_ at h9
   intro v10 h10;change _=_ at h10;subst v10;intro v11 h11;change _=_ at h11
   simp only [Given,gv2]
   have HB:=Lib.hid hI.bel
   obtain ⟨x0,x1,x2,x3,x4,x5⟩:=cells6 hI.row
   have q0:=hI.c0
   have q4:=hI.c4
   have q3:w9.cell? ⟨(w.heap.size+1),5,none⟩=some (.slice none 0 0):=hI.cx
   clear hI hri hr6 hb0
   rename_i Q9 K9 hKK
   show K9 _ _
   refine hKK _ _ ?_
   go_wp2
   go_ret
   exact ⟨by first | rfl | (simp;omega),HB.out⟩
  ·have f1:decide (dn=0)=false:=decide_eq_false c1
   have g1:decide ((0:Int)=(dn:Int))=false:=decide_eq_false (by omega)
   have k1:((0:Int) == (dn:Int))=false:=by simp;omega
   obtain rfl:B=false:=by rw [← hB];simp [c1]
   clear hB
   go_enter Tryz.func62,Tryz.ntmps62
   go_wp2_with fail
   have hb0:(World.drew ((w.alloc (.cells #[.int .i64 3,.int .i64 pid,.int .i64 ad,.int .i64 n,.int .i64 0,.slice a dn dc] 39)).alloc (.cells #[.int .i64 3,.int .i64 0,.int .i64 0,.int .i64 0,.int .i64 0,.slice none 0 0] 39))).heap[w.heap.size]?=some (.cells #[.int .i64 3,.int .i64 pid,.int .i64 ad,.int .i64 n,.int .i64 0,.slice a dn dc] 39 (0,0)):=al2_0 _ _ _
   have hr6:Row6 39 (w.heap.size+1) (World.drew ((w.alloc (.cells #[.int .i64 3,.int .i64 pid,.int .i64 ad,.int .i64 n,.int .i64 0,.slice a dn dc] 39)).alloc (.cells #[.int .i64 3,.int .i64 0,.int .i64 0,.int .i64 0,.int .i64 0,.slice none 0 0] 39))):=⟨_,_,_,_,_,_,al2_1 _ _ _⟩
   have hri:RtI w #[.int .i64 3,.int .i64 pid,.int .i64 ad,.int .i64 n,.int .i64 0,.slice a dn dc] (.int .i64 3) (.int .i64 0) 5 (.slice none 0 0) (World.drew ((w.alloc (.cells #[.int .i64 3,.int .i64 pid,.int .i64 ad,.int .i64 n,.int .i64 0,.slice a dn dc] 39)).alloc (.cells #[.int .i64 3,.int .i64 0,.int .i64 0,.int .i64 0,.int .i64 0,.slice none 0 0] 39))):=rti_start _ _ _ _ (by decide) rfl
   refine' reg_order [eqV _,eqV _,eqV _,eqV _,eqV _,eqV _,eqV _,(fun _ w5=>w5.cell? ⟨(w.heap.size+1),1,none⟩=some (.int .i64 pid)),eqV _,(fun _ w5=>w5.cell? ⟨(w.heap.size+1),2,none⟩=some (.int .i64 ad)),eqV _,(fun _ w5=>w5.cell? ⟨(w.heap.size+1),3,none⟩=some (.int .i64 n))] [(7,fun w5 w6=>Wr (w.heap.size+1) 1 w5 w6),(9,fun w5 w6=>Wr (w.heap.size+1) 2 w5 w6),(11,fun w5 w6=>Wr (w.heap.size+1) 3 w5 w6)] [(1,fun w5=>w5.heap[w.heap.size]?=some (.cells #[.int .i64 3,.int .i64 pid,.int .i64 ad,.int .i64 n,.int .i64 0,.slice a dn dc] 39 (0,0))),(3,fun w5=>w5.heap[w.heap.size]?=some (.cells #[.int .i64 3,.int .i64 pid,.int .i64 ad,.int .i64 n,.int .i64 0,.slice a dn dc] 39 (0,0))),(5,fun w5=>w5.heap[w.heap.size]?=some (.cells #[.int .i64 3,.int .i64 pid,.int .i64 ad,.int .i64 n,.int .i64 0,.slice a dn dc] 39 (0,0))),(7,fun w5=>Row6 39 (w.heap.size+1) w5),(9,fun w5=>Row6 39 (w.heap.size+1) w5),(11,fun w5=>Row6 39 (w.heap.size+1) w5),(12,fun w5=>RtI w #[.int .i64 3,.int .i64 pid,.int .i64 ad,.int .i64 n,.int .i64 0,.slice a dn dc] (.int .i64 3) (.int .i64 0) 5 (.slice none 0 0) w5)] [20,21,22,23,24,25,26,88,27,90,28,92] [[],[0],[],[2],[],[4],[],[1,6],[],[3,8],[],[5,10]] [0,1,2,3,4,5,6,7,8,9,10,11] 12 (by kernel_rfl) ⟨eS _,eS _,eS _,eS _,eS _,eS _,eS _,fun _ _ _ p b=>cel b p,eS _,fun _ _ _ p b=>cel b p,eS _,fun _ _ _ p b=>cel b p,trivial⟩ ⟨⟨.inl (eS _),.inl (eS _),.inl (eS _),.inl (eS _),.inl (eS _),.inl (eS _),.inl (eS _),.inr (.inr rfl),.inl (eS _),.inr (.inl (by kernel_rfl)),.inl (eS _),.inr (.inl (by kernel_rfl)),trivial⟩,⟨.inl (eS _),.inl (eS _),.inl (eS _),.inl (eS _),.inl (eS _),.inl (eS _),.inl (eS _),.inl (fun _ _ _ p g=>Wr.cell g p (by decide)),.inl (eS _),.inr (.inr rfl),.inl (eS _),.inr (.inl (by kernel_rfl)),trivial⟩,⟨.inl (eS _),.inl (eS _),.inl (eS _),.inl (eS _),.inl (eS _),.inl (eS _),.inl (eS _),.inl (fun _ _ _ p g=>Wr.cell g p (by decide)),.inl (eS _),.inl (fun _ _ _ p g=>Wr.cell g p (by decide)),.inl (eS _),.inr (.inr rfl),trivial⟩,trivial⟩ ⟨fun _ _ p b=>row_keep p b,fun _ _ p b=>row_keep p b,fun _ _ p b=>row_keep p b,fun _ _ p b=>Row6.keep p b,fun _ _ p b=>Row6.keep p b,fun _ _ p b=>Row6.keep p b,fun _ _ p b=>RtI.keep p b,trivial⟩ ⟨⟨.inr (.inl (by kernel_rfl)),.inl (fun _ _ p g=>Wr.other g p (by omega)),.inl (fun _ _ p g=>Wr.other g p (by omega)),.inr (.inr rfl),.inl (fun _ _ p g=>Wr.row6 g p (by decide)),.inl (fun _ _ p g=>Wr.row6 g p (by decide)),.inl (fun _ _ p g=>RtI.wr p g (by decide)),trivial⟩,⟨.inr (.inl (by kernel_rfl)),.inr (.inl (by kernel_rfl)),.inl (fun _ _ p g=>Wr.other g p (by omega)),.inr (.inl (by kernel_rfl)),.inr (.inr rfl),.inl (fun _ _ p g=>Wr.row6 g p (by decide)),.inl (fun _ _ p g=>RtI.wr p g (by decide)),trivial⟩,⟨.inr (.inl (by kernel_rfl)),.inr (.inl (by kernel_rfl)),.inr (.inl (by kernel_rfl)),.inr (.inl (by kernel_rfl)),.inr (.inl (by kernel_rfl)),.inr (.inr rfl),.inl (fun _ _ p g=>RtI.wr p g (by decide)),trivial⟩,trivial⟩ ⟨hb0,hb0,hb0,hr6,hr6,hr6,hri,trivial⟩ 81 rfl (by kernel_rfl) (by kernel_rfl) rfl rfl 12 rfl ?q2obl ?q2fin
   case q2obl=>
    refine ⟨?q2o0,?q2o1,?q2o2,?q2o3,?q2o4,?q2o5,?q2o6,?q2o7,?q2o8,?q2o9,?q2o10,?q2o11,trivial⟩
    case q2o0 | q2o2 | q2o4 | q2o6 | q2o8 | q2o10=>
     intro w1 hI;refine t2o (by rfl) ?_;intro K hK;go_simp;refine hK _ _ ⟨rfl,Kept.refl _,?_⟩;show _=_;simp only [gv1];rfl
    case q2o1=>
     intro w1 hI
     replace hI:(fun w5=>w5.heap[w.heap.size]?=some (.cells #[.int .i64 3,.int .i64 pid,.int .i64 ad,.int .i64 n,.int .i64 0,.slice a dn dc] 39 (0,0))) w1:=hI
     intro v0 h0;change _=_ at h0;subst v0;refine t2o (by rfl) ?_;intro K hK;simp only [gv2]
     have hc:=cell_of_row w1 w.heap.size 1 _ _ _ hI
     go_simp;refine hK _ _ ⟨rfl,Kept.refl _,?_⟩;show _=_;simp only [gv1];rfl
    case q2o3=>
     intro w1 hI
     replace hI:(fun w5=>w5.heap[w.heap.size]?=some (.cells #[.int .i64 3,.int .i64 pid,.int .i64 ad,.int .i64 n,.int .i64 0,.slice a dn dc] 39 (0,0))) w1:=hI
     intro v2 h2;change _=_ at h2;subst v2;refine t2o (by rfl) ?_;intro K hK;simp only [gv2]
     have hc:=cell_of_row w1 w.heap.size 2 _ _ _ hI
     go_simp;refine hK _ _ ⟨rfl,Kept.refl _,?_⟩;show _=_;simp only [gv1];rfl
    case q2o5=>
     intro w1 hI
     replace hI:(fun w5=>w5.heap[w.heap.size]?=some (.cells #[.int .i64 3,.int .i64 pid,.int .i64 ad,.int .i64 n,.int .i64 0,.slice a dn dc] 39 (0,0))) w1:=hI
     intro v4 h4;change _=_ at h4;subst v4;refine t2o (by rfl) ?_;intro K hK;simp only [gv2]
     have hc:=cell_of_row w1 w.heap.size 3 _ _ _ hI
     go_simp;refine hK _ _ ⟨rfl,Kept.refl _,?_⟩;show _=_;simp only [gv1];rfl
    case q2o7=>
     intro w1 hI
     replace hI:(fun w5=>Row6 39 (w.heap.size+1) w5) w1:=hI
     intro v1 h1;change _=_ at h1;subst v1;intro v6 h6;change _=_ at h6;subst v6;refine t2o (by rfl) ?_;intro K hK;simp only [gv2]
     obtain ⟨e1,e2,y,e3⟩:=Row6.set hI (i:=1) (by decide) (.int .i64 pid)
     go_simp
     refine hK _ _ ⟨rfl,⟨_,rfl⟩,?_⟩
     exact e1
    case q2o9=>
     intro w1 hI
     replace hI:(fun w5=>Row6 39 (w.heap.size+1) w5) w1:=hI
     intro v3 h3;change _=_ at h3;subst v3;intro v8 h8;change _=_ at h8;subst v8;refine t2o (by rfl) ?_;intro K hK;simp only [gv2]
     obtain ⟨e1,e2,y,e3⟩:=Row6.set hI (i:=2) (by decide) (.int .i64 ad)
     go_simp
     refine hK _ _ ⟨rfl,⟨_,rfl⟩,?_⟩
     exact e1
    case q2o11=>
     intro w1 hI
     replace hI:(fun w5=>Row6 39 (w.heap.size+1) w5) w1:=hI
     intro v5 h5;change _=_ at h5;subst v5;intro v10 h10;change _=_ at h10;subst v10;refine t2o (by rfl) ?_;intro K hK;simp only [gv2]
     obtain ⟨e1,e2,y,e3⟩:=Row6.set hI (i:=3) (by decide) (.int .i64 n)
     go_simp
     refine hK _ _ ⟨rfl,⟨_,rfl⟩,?_⟩
     exact e1
   intro w9 hI
   replace hI:(fun w5=>RtI w #[.int .i64 3,.int .i64 pid,.int .i64 ad,.int .i64 n,.int .i64 0,.slice a dn dc] (.int .i64 3) (.int .i64 0) 5 (.slice none 0 0) w5) w9:=hI
   intro v0 h0;change _=_ at h0;subst v0;intro v1 h1;change _=_ at h1;subst v1;intro v2 h2;change _=_ at h2;subst v2;intro v3 h3;change _=_ at h3;subst v3;intro v4 h4;change _=_ at h4;subst v4;intro v5 h5;change _=_ at h5;subst v5;intro v6 h6;change _=_ at h6;subst v6;intro v7 h7;change _=_ at h7;intro v8 h8;change _=_ at h8;subst v8;intro v9 h9;change _=_ at h9
   intro v10 h10;change _=_ at h10;subst v10;intro v11 h11;change _=_ at h11
   simp only [Given,gv2]
   have HB:=Lib.hid hI.bel
   obtain ⟨x0,x1,x2,x3,x4,x5⟩:=cells6 hI.row
   have q0:=hI.c0
   have q4:=hI.c4
   have q3:w9.cell? ⟨(w.heap.size+1),5,none⟩=some (.slice none 0 0):=hI.cx
   clear hI hri hr6 hb0
   rename_i Q9 K9 hKK
   show K9 _ _
   refine hKK _ _ ?_
   go_wp2
   go_ret
   exact ⟨by first | rfl | (simp;omega),HB.out⟩
 ·have f0:decide (pr=0)=false:=decide_eq_false c0
  have g0:decide ((0:Int)=(pr:Int))=false:=decide_eq_false (by omega)
  have k0:((0:Int) == (pr:Int))=false:=by simp;omega
  obtain rfl:B=false:=by rw [← hB];simp [c0]
  clear hB
  go_enter Tryz.func62,Tryz.ntmps62
  go_wp2_with fail
  have hb0:(World.drew ((w.alloc (.cells #[.int .i64 3,.int .i64 pid,.int .i64 ad,.int .i64 n,.int .i64 pr,.slice a dn dc] 39)).alloc (.cells #[.int .i64 3,.int .i64 0,.int .i64 0,.int .i64 0,.int .i64 0,.slice none 0 0] 39))).heap[w.heap.size]?=some (.cells #[.int .i64 3,.int .i64 pid,.int .i64 ad,.int .i64 n,.int .i64 pr,.slice a dn dc] 39 (0,0)):=al2_0 _ _ _
  have hr6:Row6 39 (w.heap.size+1) (World.drew ((w.alloc (.cells #[.int .i64 3,.int .i64 pid,.int .i64 ad,.int .i64 n,.int .i64 pr,.slice a dn dc] 39)).alloc (.cells #[.int .i64 3,.int .i64 0,.int .i64 0,.int .i64 0,.int .i64 0,.slice none 0 0] 39))):=⟨_,_,_,_,_,_,al2_1 _ _ _⟩
  have hri:RtI w #[.int .i64 3,.int .i64 pid,.int .i64 ad,.int .i64 n,.int .i64 pr,.slice a dn dc] (.int .i64 3) (.int .i64 0) 5 (.slice none 0 0) (World.drew ((w.alloc (.cells #[.int .i64 3,.int .i64 pid,.int .i64 ad,.int .i64 n,.int .i64 pr,.slice a dn dc] 39)).alloc (.cells #[.int .i64 3,.int .i64 0,.int .i64 0,.int .i64 0,.int .i64 0,.slice none 0 0] 39))):=rti_start _ _ _ _ (by decide) rfl
  refine' reg_order [eqV _,eqV _,eqV _,eqV _,eqV _,eqV _,eqV _,(fun _ w5=>w5.cell? ⟨(w.heap.size+1),1,none⟩=some (.int .i64 pid)),eqV _,(fun _ w5=>w5.cell? ⟨(w.heap.size+1),2,none⟩=some (.int .i64 ad)),eqV _,(fun _ w5=>w5.cell? ⟨(w.heap.size+1),3,none⟩=some (.int .i64 n))] [(7,fun w5 w6=>Wr (w.heap.size+1) 1 w5 w6),(9,fun w5 w6=>Wr (w.heap.size+1) 2 w5 w6),(11,fun w5 w6=>Wr (w.heap.size+1) 3 w5 w6)] [(1,fun w5=>w5.heap[w.heap.size]?=some (.cells #[.int .i64 3,.int .i64 pid,.int .i64 ad,.int .i64 n,.int .i64 pr,.slice a dn dc] 39 (0,0))),(3,fun w5=>w5.heap[w.heap.size]?=some (.cells #[.int .i64 3,.int .i64 pid,.int .i64 ad,.int .i64 n,.int .i64 pr,.slice a dn dc] 39 (0,0))),(5,fun w5=>w5.heap[w.heap.size]?=some (.cells #[.int .i64 3,.int .i64 pid,.int .i64 ad,.int .i64 n,.int .i64 pr,.slice a dn dc] 39 (0,0))),(7,fun w5=>Row6 39 (w.heap.size+1) w5),(9,fun w5=>Row6 39 (w.heap.size+1) w5),(11,fun w5=>Row6 39 (w.heap.size+1) w5),(12,fun w5=>RtI w #[.int .i64 3,.int .i64 pid,.int .i64 ad,.int .i64 n,.int .i64 pr,.slice a dn dc] (.int .i64 3) (.int .i64 0) 5 (.slice none 0 0) w5)] [20,21,22,23,24,25,26,88,27,90,28,92] [[],[0],[],[2],[],[4],[],[1,6],[],[3,8],[],[5,10]] [0,1,2,3,4,5,6,7,8,9,10,11] 12 (by kernel_rfl) ⟨eS _,eS _,eS _,eS _,eS _,eS _,eS _,fun _ _ _ p b=>cel b p,eS _,fun _ _ _ p b=>cel b p,eS _,fun _ _ _ p b=>cel b p,trivial⟩ ⟨⟨.inl (eS _),.inl (eS _),.inl (eS _),.inl (eS _),.inl (eS _),.inl (eS _),.inl (eS _),.inr (.inr rfl),.inl (eS _),.inr (.inl (by kernel_rfl)),.inl (eS _),.inr (.inl (by kernel_rfl)),trivial⟩,⟨.inl (eS _),.inl (eS _),.inl (eS _),.inl (eS _),.inl (eS _),.inl (eS _),.inl (eS _),.inl (fun _ _ _ p g=>Wr.cell g p (by decide)),.inl (eS _),.inr (.inr rfl),.inl (eS _),.inr (.inl (by kernel_rfl)),trivial⟩,⟨.inl (eS _),.inl (eS _),.inl (eS _),.inl (eS _),.inl (eS _),.inl (eS _),.inl (eS _),.inl (fun _ _ _ p g=>Wr.cell g p (by decide)),.inl (eS _),.inl (fun _ _ _ p g=>Wr.cell g p (by decide)),.inl (eS _),.inr (.inr rfl),trivial⟩,trivial⟩ ⟨fun _ _ p b=>row_keep p b,fun _ _ p b=>row_keep p b,fun _ _ p b=>row_keep p b,fun _ _ p b=>Row6.keep p b,fun _ _ p b=>Row6.keep p b,fun _ _ p b=>Row6.keep p b,fun _ _ p b=>RtI.keep p b,trivial⟩ ⟨⟨.inr (.inl (by kernel_rfl)),.inl (fun _ _ p g=>Wr.other g p (by omega)),.inl (fun _ _ p g=>Wr.other g p (by omega)),.inr (.inr rfl),.inl (fun _ _ p g=>Wr.row6 g p (by decide)),.inl (fun _ _ p g=>Wr.row6 g p (by decide)),.inl (fun _ _ p g=>RtI.wr p g (by decide)),trivial⟩,⟨.inr (.inl (by kernel_rfl)),.inr (.inl (by kernel_rfl)),.inl (fun _ _ p g=>Wr.other g p (by omega)),.inr (.inl (by kernel_rfl)),.inr (.inr rfl),.inl (fun _ _ p g=>Wr.row6 g p (by decide)),.inl (fun _ _ p g=>RtI.wr p g (by decide)),trivial⟩,⟨.inr (.inl (by kernel_rfl)),.inr (.inl (by kernel_rfl)),.inr (.inl (by kernel_rfl)),.inr (.inl (by kernel_rfl)),.inr (.inl (by kernel_rfl)),.inr (.inr rfl),.inl (fun _ _ p g=>RtI.wr p g (by decide)),trivial⟩,trivial⟩ ⟨hb0,hb0,hb0,hr6,hr6,hr6,hri,trivial⟩ 81 rfl (by kernel_rfl) (by kernel_rfl) rfl rfl 12 rfl ?q3obl ?q3fin
  case q3obl=>
   refine ⟨?q3o0,?q3o1,?q3o2,?q3o3,?q3o4,?q3o5,?q3o6,?q3o7,?q3o8,?q3o9,?q3o10,?q3o11,trivial⟩
   case q3o0 | q3o2 | q3o4 | q3o6 | q3o8 | q3o10=>
    intro w1 hI;refine t2o (by rfl) ?_;intro K hK;go_simp;refine hK _ _ ⟨rfl,Kept.refl _,?_⟩;show _=_;simp only [gv1];rfl
   case q3o1=>
    intro w1 hI
    replace hI:(fun w5=>w5.heap[w.heap.size]?=some (.cells #[.int .i64 3,.int .i64 pid,.int .i64 ad,.int .i64 n,.int .i64 pr,.slice a dn dc] 39 (0,0))) w1:=hI
    intro v0 h0;change _=_ at h0;subst v0;refine t2o (by rfl) ?_;intro K hK;simp only [gv2]
    have hc:=cell_of_row w1 w.heap.size 1 _ _ _ hI
    go_simp;refine hK _ _ ⟨rfl,Kept.refl _,?_⟩;show _=_;simp only [gv1];rfl
   case q3o3=>
    intro w1 hI
    replace hI:(fun w5=>w5.heap[w.heap.size]?=some (.cells #[.int .i64 3,.int .i64 pid,.int .i64 ad,.int .i64 n,.int .i64 pr,.slice a dn dc] 39 (0,0))) w1:=hI
    intro v2 h2;change _=_ at h2;subst v2;refine t2o (by rfl) ?_;intro K hK;simp only [gv2]
    have hc:=cell_of_row w1 w.heap.size 2 _ _ _ hI
    go_simp;refine hK _ _ ⟨rfl,Kept.refl _,?_⟩;show _=_;simp only [gv1];rfl
   case q3o5=>
    intro w1 hI
    replace hI:(fun w5=>w5.heap[w.heap.size]?=some (.cells #[.int .i64 3,.int .i64 pid,.int .i64 ad,.int .i64 n,.int .i64 pr,.slice a dn dc] 39 (0,0))) w1:=hI
    intro v4 h4;change _=_ at h4;subst v4;refine t2o (by rfl) ?_;intro K hK;simp only [gv2]
    have hc:=cell_of_row w1 w.heap.size 3 _ _ _ hI
    go_simp;refine hK _ _ ⟨rfl,Kept.refl _,?_⟩;show _=_;simp only [gv1];rfl
   case q3o7=>
    intro w1 hI
    replace hI:(fun w5=>Row6 39 (w.heap.size+1) w5) w1:=hI
    intro v1 h1;change _=_ at h1;subst v1;intro v6 h6;change _=_ at h6;subst v6;refine t2o (by rfl) ?_;intro K hK;simp only [gv2]
    obtain ⟨e1,e2,y,e3⟩:=Row6.set hI (i:=1) (by decide) (.int .i64 pid)
    go_simp
    refine hK _ _ ⟨rfl,⟨_,rfl⟩,?_⟩
    exact e1
   case q3o9=>
    intro w1 hI
    replace hI:(fun w5=>Row6 39 (w.heap.size+1) w5) w1:=hI
    intro v3 h3;change _=_ at h3;subst v3;intro v8 h8;change _=_ at h8;subst v8;refine t2o (by rfl) ?_;intro K hK;simp only [gv2]
    obtain ⟨e1,e2,y,e3⟩:=Row6.set hI (i:=2) (by decide) (.int .i64 ad)
    go_simp
    refine hK _ _ ⟨rfl,⟨_,rfl⟩,?_⟩
    exact e1
   case q3o11=>
    intro w1 hI
    replace hI:(fun w5=>Row6 39 (w.heap.size+1) w5) w1:=hI
    intro v5 h5;change _=_ at h5;subst v5;intro v10 h10;change _=_ at h10;subst v10;refine t2o (by rfl) ?_;intro K hK;simp only [gv2]
    obtain ⟨e1,e2,y,e3⟩:=Row6.set hI (i:=3) (by decide) (.int .i64 n)
    go_simp
    refine hK _ _ ⟨rfl,⟨_,rfl⟩,?_⟩
    exact e1
  intro w9 hI
  replace hI:(fun w5=>RtI w #[.int .i64 3,.int .i64 pid,.int .i64 ad,.int .i64 n,.int .i64 pr,.slice a dn dc] (.int .i64 3) (.int .i64 0) 5 (.slice none 0 0) w5) w9:=hI
  intro v0 h0;change _=_ at h0;subst v0;intro v1 h1;change _=_ at h1;subst v1;intro v2 h2;change _=_ at h2;subst v2;intro v3 h3;change _=_ at h3;subst v3;intro v4 h4;change _=_ at h4;subst v4;intro v5 h5;change _=_ at h5;subst v5;intro v6 h6;change _=_ at h6;subst v6;intro v7 h7;change _=_ at h7;intro v8 h8;change _=_ at h8;subst v8;intro v9 h9;change _=_ at h9
  intro v10 h10;change _=_ at h10;subst v10;intro v11 h11;change _=_ at h11
  simp only [Given,gv2]
  have HB:=Lib.hid hI.bel
  obtain ⟨x0,x1,x2,x3,x4,x5⟩:=cells6 hI.row
  have q0:=hI.c0
  have q4:=hI.c4
  have q3:w9.cell? ⟨(w.heap.size+1),5,none⟩=some (.slice none 0 0):=hI.cx
  clear hI hri hr6 hb0
  rename_i Q9 K9 hKK
  show K9 _ _
  refine hKK _ _ ?_
  go_wp2
  go_ret
  exact ⟨by first | rfl | (simp;omega),HB.out⟩
set_option maxHeartbeats 1000000 in
theorem right_5 (B:Bool) (hB:(decide (pr=0) && decide (dn=0))=B):Calls Tryz.prog 62 #[.agg #[.int .i64 5,.int .i64 pid,.int .i64 ad,.int .i64 n,.int .i64 pr,.slice a dn dc]] w fun e w'=>e = .returned (.bool B)∧Below w.heap.size w w':=by
 by_cases c0:pr=0
 ·subst c0
  by_cases c1:dn=0
  ·subst c1
   obtain rfl:B=true:=by rw [← hB];simp
   clear hB
   go_enter Tryz.func62,Tryz.ntmps62
   go_wp2_with fail
   have hb0:(World.drew ((w.alloc (.cells #[.int .i64 5,.int .i64 pid,.int .i64 ad,.int .i64 n,.int .i64 0,.slice a 0 dc] 39)).alloc (.cells #[.int .i64 5,.int .i64 0,.int .i64 0,.int .i64 0,.int .i64 0,.slice none 0 0] 39))).heap[w.heap.size]?=some (.cells #[.int .i64 5,.int .i64 pid,.int .i64 ad,.int .i64 n,.int .i64 0,.slice a 0 dc] 39 (0,0)):=al2_0 _ _ _
   have hr6:Row6 39 (w.heap.size+1) (World.drew ((w.alloc (.cells #[.int .i64 5,.int .i64 pid,.int .i64 ad,.int .i64 n,.int .i64 0,.slice a 0 dc] 39)).alloc (.cells #[.int .i64 5,.int .i64 0,.int .i64 0,.int .i64 0,.int .i64 0,.slice none 0 0] 39))):=⟨_,_,_,_,_,_,al2_1 _ _ _⟩
   have hri:RtI w #[.int .i64 5,.int .i64 pid,.int .i64 ad,.int .i64 n,.int .i64 0,.slice a 0 dc] (.int .i64 5) (.int .i64 0) 5 (.slice none 0 0) (World.drew ((w.alloc (.cells #[.int .i64 5,.int .i64 pid,.int .i64 ad,.int .i64 n,.int .i64 0,.slice a 0 dc] 39)).alloc (.cells #[.int .i64 5,.int .i64 0,.int .i64 0,.int .i64 0,.int .i64 0,.slice none 0 0] 39))):=rti_start _ _ _ _ (by decide) rfl
   refine' reg_order [eqV _,eqV _,eqV _,eqV _,eqV _,eqV _,eqV _,(fun _ w5=>w5.cell? ⟨(w.heap.size+1),1,none⟩=some (.int .i64 pid)),eqV _,(fun _ w5=>w5.cell? ⟨(w.heap.size+1),2,none⟩=some (.int .i64 ad)),eqV _,(fun _ w5=>w5.cell? ⟨(w.heap.size+1),3,none⟩=some (.int .i64 n))] [(7,fun w5 w6=>Wr (w.heap.size+1) 1 w5 w6),(9,fun w5 w6=>Wr (w.heap.size+1) 2 w5 w6),(11,fun w5 w6=>Wr (w.heap.size+1) 3 w5 w6)] [(1,fun w5=>w5.heap[w.heap.size]?=some (.cells #[.int .i64 5,.int .i64 pid,.int .i64 ad,.int .i64 n,.int .i64 0,.slice a 0 dc] 39 (0,0))),(3,fun w5=>w5.heap[w.heap.size]?=some (.cells #[.int .i64 5,.int .i64 pid,.int .i64 ad,.int .i64 n,.int .i64 0,.slice a 0 dc] 39 (0,0))),(5,fun w5=>w5.heap[w.heap.size]?=some (.cells #[.int .i64 5,.int .i64 pid,.int .i64 ad,.int .i64 n,.int .i64 0,.slice a 0 dc] 39 (0,0))),(7,fun w5=>Row6 39 (w.heap.size+1) w5),(9,fun w5=>Row6 39 (w.heap.size+1) w5),(11,fun w5=>Row6 39 (w.heap.size+1) w5),(12,fun w5=>RtI w #[.int .i64 5,.int .i64 pid,.int .i64 ad,.int .i64 n,.int .i64 0,.slice a 0 dc] (.int .i64 5) (.int .i64 0) 5 (.slice none 0 0) w5)] [20,21,22,23,24,25,26,88,27,90,28,92] [[],[0],[],[2],[],[4],[],[1,6],[],[3,8],[],[5,10]] [0,1,2,3,4,5,6,7,8,9,10,11] 12 (by kernel_rfl) ⟨eS _,eS _,eS _,eS _,eS _,eS _,eS _,fun _ _ _ p b=>cel b p,eS _,fun _ _ _ p b=>cel b p,eS _,fun _ _ _ p b=>cel b p,trivial⟩ ⟨⟨.inl (eS _),.inl (eS _),.inl (eS _),.inl (eS _),.inl (eS _),.inl (eS _),.inl (eS _),.inr (.inr rfl),.inl (eS _),.inr (.inl (by kernel_rfl)),.inl (eS _),.inr (.inl (by kernel_rfl)),trivial⟩,⟨.inl (eS _),.inl (eS _),.inl (eS _),.inl (eS _),.inl (eS _),.inl (eS _),.inl (eS _),.inl (fun _ _ _ p g=>Wr.cell g p (by decide)),.inl (eS _),.inr (.inr rfl),.inl (eS _),.inr (.inl (by kernel_rfl)),trivial⟩,⟨.inl (eS _),.inl (eS _),.inl (eS _),.inl (eS _),.inl (eS _),.inl (eS _),.inl (eS _),.inl (fun _ _ _ p g=>Wr.cell g p (by decide)),.inl (eS _),.inl (fun _ _ _ p g=>Wr.cell g p (by decide)),.inl (eS _),.inr (.inr rfl),trivial⟩,trivial⟩ ⟨fun _ _ p b=>row_keep p b,fun _ _ p b=>row_keep p b,fun _ _ p b=>row_keep p b,fun _ _ p b=>Row6.keep p b,fun _ _ p b=>Row6.keep p b,fun _ _ p b=>Row6.keep p b,fun _ _ p b=>RtI.keep p b,trivial⟩ ⟨⟨.inr (.inl (by kernel_rfl)),.inl (fun _ _ p g=>Wr.other g p (by omega)),.inl (fun _ _ p g=>Wr.other g p (by omega)),.inr (.inr rfl),.inl (fun _ _ p g=>Wr.row6 g p (by decide)),.inl (fun _ _ p g=>Wr.row6 g p (by decide)),.inl (fun _ _ p g=>RtI.wr p g (by decide)),trivial⟩,⟨.inr (.inl (by kernel_rfl)),.inr (.inl (by kernel_rfl)),.inl (fun _ _ p g=>Wr.other g p (by omega)),.inr (.inl (by kernel_rfl)),.inr (.inr rfl),.inl (fun _ _ p g=>Wr.row6 g p (by decide)),.inl (fun _ _ p g=>RtI.wr p g (by decide)),trivial⟩,⟨.inr (.inl (by kernel_rfl)),.inr (.inl (by kernel_rfl)),.inr (.inl (by kernel_rfl)),.inr (.inl (by kernel_rfl)),.inr (.inl (by kernel_rfl)),.inr (.inr rfl),.inl (fun _ _ p g=>RtI.wr p g (by decide)),trivial⟩,trivial⟩ ⟨hb0,hb0,hb0,hr6,hr6,hr6,hri,trivial⟩ 81 rfl (by kernel_rfl) (by kernel_rfl) rfl rfl 12 rfl ?q4obl ?q4fin
   case q4obl=>
    refine ⟨?q4o0,?q4o1,?q4o2,?q4o3,?q4o4,?q4o5,?q4o6,?q4o7,?q4o8,?q4o9,?q4o10,?q4o11,trivial⟩
    case q4o0 | q4o2 | q4o4 | q4o6 | q4o8 | q4o10=>
     intro w1 hI;refine t2o (by rfl) ?_;intro K hK;go_simp;refine hK _ _ ⟨rfl,Kept.refl _,?_⟩;show _=_;simp only [gv1];rfl
    case q4o1=>
     intro w1 hI
     replace hI:(fun w5=>w5.heap[w.heap.size]?=some (.cells #[.int .i64 5,.int .i64 pid,.int .i64 ad,.int .i64 n,.int .i64 0,.slice a 0 dc] 39 (0,0))) w1:=hI
     intro v0 h0;change _=_ at h0;subst v0;refine t2o (by rfl) ?_;intro K hK;simp only [gv2]
     have hc:=cell_of_row w1 w.heap.size 1 _ _ _ hI
     go_simp;refine hK _ _ ⟨rfl,Kept.refl _,?_⟩;show _=_;simp only [gv1];rfl
    case q4o3=>
     intro w1 hI
     replace hI:(fun w5=>w5.heap[w.heap.size]?=some (.cells #[.int .i64 5,.int .i64 pid,.int .i64 ad,.int .i64 n,.int .i64 0,.slice a 0 dc] 39 (0,0))) w1:=hI
     intro v2 h2;change _=_ at h2;subst v2;refine t2o (by rfl) ?_;intro K hK;simp only [gv2]
     have hc:=cell_of_row w1 w.heap.size 2 _ _ _ hI
     go_simp;refine hK _ _ ⟨rfl,Kept.refl _,?_⟩;show _=_;simp only [gv1];rfl
    case q4o5=>
     intro w1 hI
     replace hI:(fun w5=>w5.heap[w.heap.size]?=some (.cells #[.int .i64 5,.int .i64 pid,.int .i64 ad,.int .i64 n,.int .i64 0,.slice a 0 dc] 39 (0,0))) w1:=hI
     intro v4 h4;change _=_ at h4;subst v4;refine t2o (by rfl) ?_;intro K hK;simp only [gv2]
     have hc:=cell_of_row w1 w.heap.size 3 _ _ _ hI
     go_simp;refine hK _ _ ⟨rfl,Kept.refl _,?_⟩;show _=_;simp only [gv1];rfl
    case q4o7=>
     intro w1 hI
     replace hI:(fun w5=>Row6 39 (w.heap.size+1) w5) w1:=hI
     intro v1 h1;change _=_ at h1;subst v1;intro v6 h6;change _=_ at h6;subst v6;refine t2o (by rfl) ?_;intro K hK;simp only [gv2]
     obtain ⟨e1,e2,y,e3⟩:=Row6.set hI (i:=1) (by decide) (.int .i64 pid)
     go_simp
     refine hK _ _ ⟨rfl,⟨_,rfl⟩,?_⟩
     exact e1
    case q4o9=>
     intro w1 hI
     replace hI:(fun w5=>Row6 39 (w.heap.size+1) w5) w1:=hI
     intro v3 h3;change _=_ at h3;subst v3;intro v8 h8;change _=_ at h8;subst v8;refine t2o (by rfl) ?_;intro K hK;simp only [gv2]
     obtain ⟨e1,e2,y,e3⟩:=Row6.set hI (i:=2) (by decide) (.int .i64 ad)
     go_simp
     refine hK _ _ ⟨rfl,⟨_,rfl⟩,?_⟩
     exact e1
    case q4o11=>
     intro w1 hI
     replace hI:(fun w5=>Row6 39 (w.heap.size+1) w5) w1:=hI
     intro v5 h5;change _=_ at h5;subst v5;intro v10 h10;change _=_ at h10;subst v10;refine t2o (by rfl) ?_;intro K hK;simp only [gv2]
     obtain ⟨e1,e2,y,e3⟩:=Row6.set hI (i:=3) (by decide) (.int .i64 n)
     go_simp
     refine hK _ _ ⟨rfl,⟨_,rfl⟩,?_⟩
     exact e1
   intro w9 hI
   replace hI:(fun w5=>RtI w #[.int .i64 5,.int .i64 pid,.int .i64 ad,.int .i64 n,.int .i64 0,.slice a 0 dc] (.int .i64 5) (.int .i64 0) 5 (.slice none 0 0) w5) w9:=hI
   intro v0 h0;change _=_ at h0;subst v0;intro v1 h1;change _=_ at h1;subst v1;intro v2 h2;change _=_ at h2;subst v2;intro v3 h3;change _=_ at h3;subst v3;intro v4 h4;change _=_ at h4;subst v4;intro v5 h5;change _=_ at h5;subst v5;intro v6 h6;change _=_ at h6;subst v6;intro v7 h7;change _=_ at h7;intro v8 h8;change _=_ at h8;subst v8;intro v9 h9;change _=_ at h9
   intro v10 h10;change _=_ at h10;subst v10;intro v11 h11;change _=_ at h11
   simp only [Given,gv2]
   have HB:=Lib.hid hI.bel
   obtain ⟨x0,x1,x2,x3,x4,x5⟩:=cells6 hI.row
   have q0:=hI.c0
   have q4:=hI.c4
   have q3:w9.cell? ⟨(w.heap.size+1),5,none⟩=some (.slice none 0 0):=hI.cx
   clear hI hri hr6 hb0
   rename_i Q9 K9 hKK
   show K9 _ _
   refine hKK _ _ ?_
   go_wp2
   go_ret
   exact ⟨by first | rfl | (simp;omega),HB.out⟩
  ·have f1:decide (dn=0)=false:=decide_eq_false c1
   have g1:decide ((0:Int)=(dn:Int))=false:=decide_eq_false (by omega)
   have k1:((0:Int) == (dn:Int))=false:=by simp;omega
   obtain rfl:B=false:=by rw [← hB];simp [c1]
   clear hB
   go_enter Tryz.func62,Tryz.ntmps62
   go_wp2_with fail
   have hb0:(World.drew ((w.alloc (.cells #[.int .i64 5,.int .i64 pid,.int .i64 ad,.int .i64 n,.int .i64 0,.slice a dn dc] 39)).alloc (.cells #[.int .i64 5,.int .i64 0,.int .i64 0,.int .i64 0,.int .i64 0,.slice none 0 0] 39))).heap[w.heap.size]?=some (.cells #[.int .i64 5,.int .i64 pid,.int .i64 ad,.int .i64 n,.int .i64 0,.slice a dn dc] 39 (0,0)):=al2_0 _ _ _
   have hr6:Row6 39 (w.heap.size+1) (World.drew ((w.alloc (.cells #[.int .i64 5,.int .i64 pid,.int .i64 ad,.int .i64 n,.int .i64 0,.slice a dn dc] 39)).alloc (.cells #[.int .i64 5,.int .i64 0,.int .i64 0,.int .i64 0,.int .i64 0,.slice none 0 0] 39))):=⟨_,_,_,_,_,_,al2_1 _ _ _⟩
   have hri:RtI w #[.int .i64 5,.int .i64 pid,.int .i64 ad,.int .i64 n,.int .i64 0,.slice a dn dc] (.int .i64 5) (.int .i64 0) 5 (.slice none 0 0) (World.drew ((w.alloc (.cells #[.int .i64 5,.int .i64 pid,.int .i64 ad,.int .i64 n,.int .i64 0,.slice a dn dc] 39)).alloc (.cells #[.int .i64 5,.int .i64 0,.int .i64 0,.int .i64 0,.int .i64 0,.slice none 0 0] 39))):=rti_start _ _ _ _ (by decide) rfl
   refine' reg_order [eqV _,eqV _,eqV _,eqV _,eqV _,eqV _,eqV _,(fun _ w5=>w5.cell? ⟨(w.heap.size+1),1,none⟩=some (.int .i64 pid)),eqV _,(fun _ w5=>w5.cell? ⟨(w.heap.size+1),2,none⟩=some (.int .i64 ad)),eqV _,(fun _ w5=>w5.cell? ⟨(w.heap.size+1),3,none⟩=some (.int .i64 n))] [(7,fun w5 w6=>Wr (w.heap.size+1) 1 w5 w6),(9,fun w5 w6=>Wr (w.heap.size+1) 2 w5 w6),(11,fun w5 w6=>Wr (w.heap.size+1) 3 w5 w6)] [(1,fun w5=>w5.heap[w.heap.size]?=some (.cells #[.int .i64 5,.int .i64 pid,.int .i64 ad,.int .i64 n,.int .i64 0,.slice a dn dc] 39 (0,0))),(3,fun w5=>w5.heap[w.heap.size]?=some (.cells #[.int .i64 5,.int .i64 pid,.int .i64 ad,.int .i64 n,.int .i64 0,.slice a dn dc] 39 (0,0))),(5,fun w5=>w5.heap[w.heap.size]?=some (.cells #[.int .i64 5,.int .i64 pid,.int .i64 ad,.int .i64 n,.int .i64 0,.slice a dn dc] 39 (0,0))),(7,fun w5=>Row6 39 (w.heap.size+1) w5),(9,fun w5=>Row6 39 (w.heap.size+1) w5),(11,fun w5=>Row6 39 (w.heap.size+1) w5),(12,fun w5=>RtI w #[.int .i64 5,.int .i64 pid,.int .i64 ad,.int .i64 n,.int .i64 0,.slice a dn dc] (.int .i64 5) (.int .i64 0) 5 (.slice none 0 0) w5)] [20,21,22,23,24,25,26,88,27,90,28,92] [[],[0],[],[2],[],[4],[],[1,6],[],[3,8],[],[5,10]] [0,1,2,3,4,5,6,7,8,9,10,11] 12 (by kernel_rfl) ⟨eS _,eS _,eS _,eS _,eS _,eS _,eS _,fun _ _ _ p b=>cel b p,eS _,fun _ _ _ p b=>cel b p,eS _,fun _ _ _ p b=>cel b p,trivial⟩ ⟨⟨.inl (eS _),.inl (eS _),.inl (eS _),.inl (eS _),.inl (eS _),.inl (eS _),.inl (eS _),.inr (.inr rfl),.inl (eS _),.inr (.inl (by kernel_rfl)),.inl (eS _),.inr (.inl (by kernel_rfl)),trivial⟩,⟨.inl (eS _),.inl (eS _),.inl (eS _),.inl (eS _),.inl (eS _),.inl (eS _),.inl (eS _),.inl (fun _ _ _ p g=>Wr.cell g p (by decide)),.inl (eS _),.inr (.inr rfl),.inl (eS _),.inr (.inl (by kernel_rfl)),trivial⟩,⟨.inl (eS _),.inl (eS _),.inl (eS _),.inl (eS _),.inl (eS _),.inl (eS _),.inl (eS _),.inl (fun _ _ _ p g=>Wr.cell g p (by decide)),.inl (eS _),.inl (fun _ _ _ p g=>Wr.cell g p (by decide)),.inl (eS _),.inr (.inr rfl),trivial⟩,trivial⟩ ⟨fun _ _ p b=>row_keep p b,fun _ _ p b=>row_keep p b,fun _ _ p b=>row_keep p b,fun _ _ p b=>Row6.keep p b,fun _ _ p b=>Row6.keep p b,fun _ _ p b=>Row6.keep p b,fun _ _ p b=>RtI.keep p b,trivial⟩ ⟨⟨.inr (.inl (by kernel_rfl)),.inl (fun _ _ p g=>Wr.other g p (by omega)),.inl (fun _ _ p g=>Wr.other g p (by omega)),.inr (.inr rfl),.inl (fun _ _ p g=>Wr.row6 g p (by decide)),.inl (fun _ _ p g=>Wr.row6 g p (by decide)),.inl (fun _ _ p g=>RtI.wr p g (by decide)),trivial⟩,⟨.inr (.inl (by kernel_rfl)),.inr (.inl (by kernel_rfl)),.inl (fun _ _ p g=>Wr.other g p (by omega)),.inr (.inl (by kernel_rfl)),.inr (.inr rfl),.inl (fun _ _ p g=>Wr.row6 g p (by decide)),.inl (fun _ _ p g=>RtI.wr p g (by decide)),trivial⟩,⟨.inr (.inl (by kernel_rfl)),.inr (.inl (by kernel_rfl)),.inr (.inl (by kernel_rfl)),.inr (.inl (by kernel_rfl)),.inr (.inl (by kernel_rfl)),.inr (.inr rfl),.inl (fun _ _ p g=>RtI.wr p g (by decide)),trivial⟩,trivial⟩ ⟨hb0,hb0,hb0,hr6,hr6,hr6,hri,trivial⟩ 81 rfl (by kernel_rfl) (by kernel_rfl) rfl rfl 12 rfl ?q5obl ?q5fin
   case q5obl=>
    refine ⟨?q5o0,?q5o1,?q5o2,?q5o3,?q5o4,?q5o5,?q5o6,?q5o7,?q5o8,?q5o9,?q5o10,?q5o11,trivial⟩
    case q5o0 | q5o2 | q5o4 | q5o6 | q5o8 | q5o10=>
     intro w1 hI;refine t2o (by rfl) ?_;intro K hK;go_simp;refine hK _ _ ⟨rfl,Kept.refl _,?_⟩;show _=_;simp only [gv1];rfl
    case q5o1=>
     intro w1 hI
     replace hI:(fun w5=>w5.heap[w.heap.size]?=some (.cells #[.int .i64 5,.int .i64 pid,.int .i64 ad,.int .i64 n,.int .i64 0,.slice a dn dc] 39 (0,0))) w1:=hI
     intro v0 h0;change _=_ at h0;subst v0;refine t2o (by rfl) ?_;intro K hK;simp only [gv2]
     have hc:=cell_of_row w1 w.heap.size 1 _ _ _ hI
     go_simp;refine hK _ _ ⟨rfl,Kept.refl _,?_⟩;show _=_;simp only [gv1];rfl
    case q5o3=>
     intro w1 hI
     replace hI:(fun w5=>w5.heap[w.heap.size]?=some (.cells #[.int .i64 5,.int .i64 pid,.int .i64 ad,.int .i64 n,.int .i64 0,.slice a dn dc] 39 (0,0))) w1:=hI
     intro v2 h2;change _=_ at h2;subst v2;refine t2o (by rfl) ?_;intro K hK;simp only [gv2]
     have hc:=cell_of_row w1 w.heap.size 2 _ _ _ hI
     go_simp;refine hK _ _ ⟨rfl,Kept.refl _,?_⟩;show _=_;simp only [gv1];rfl
    case q5o5=>
     intro w1 hI
     replace hI:(fun w5=>w5.heap[w.heap.size]?=some (.cells #[.int .i64 5,.int .i64 pid,.int .i64 ad,.int .i64 n,.int .i64 0,.slice a dn dc] 39 (0,0))) w1:=hI
     intro v4 h4;change _=_ at h4;subst v4;refine t2o (by rfl) ?_;intro K hK;simp only [gv2]
     have hc:=cell_of_row w1 w.heap.size 3 _ _ _ hI
     go_simp;refine hK _ _ ⟨rfl,Kept.refl _,?_⟩;show _=_;simp only [gv1];rfl
    case q5o7=>
     intro w1 hI
     replace hI:(fun w5=>Row6 39 (w.heap.size+1) w5) w1:=hI
     intro v1 h1;change _=_ at h1;subst v1;intro v6 h6;change _=_ at h6;subst v6;refine t2o (by rfl) ?_;intro K hK;simp only [gv2]
     obtain ⟨e1,e2,y,e3⟩:=Row6.set hI (i:=1) (by decide) (.int .i64 pid)
     go_simp
     refine hK _ _ ⟨rfl,⟨_,rfl⟩,?_⟩
     exact e1
    case q5o9=>
     intro w1 hI
     replace hI:(fun w5=>Row6 39 (w.heap.size+1) w5) w1:=hI
     intro v3 h3;change _=_ at h3;subst v3;intro v8 h8;change _=_ at h8;subst v8;refine t2o (by rfl) ?_;intro K hK;simp only [gv2]
     obtain ⟨e1,e2,y,e3⟩:=Row6.set hI (i:=2) (by decide) (.int .i64 ad)
     go_simp
     refine hK _ _ ⟨rfl,⟨_,rfl⟩,?_⟩
     exact e1
    case q5o11=>
     intro w1 hI
     replace hI:(fun w5=>Row6 39 (w.heap.size+1) w5) w1:=hI
     intro v5 h5;change _=_ at h5;subst v5;intro v10 h10;change _=_ at h10;subst v10;refine t2o (by rfl) ?_;intro K hK;simp only [gv2]
     obtain ⟨e1,e2,y,e3⟩:=Row6.set hI (i:=3) (by decide) (.int .i64 n)
     go_simp
     refine hK _ _ ⟨rfl,⟨_,rfl⟩,?_⟩
     exact e1
   intro w9 hI
   replace hI:(fun w5=>RtI w #[.int .i64 5,.int .i64 pid,.int .i64 ad,.int .i64 n,.int .i64 0,.slice a dn dc] (.int .i64 5) (.int .i64 0) 5 (.slice none 0 0) w5) w9:=hI
   intro v0 h0;change _=_ at h0;subst v0;intro v1 h1;change _=_ at h1;subst v1;intro v2 h2;change _=_ at h2;subst v2;intro v3 h3;change _=_ at h3;subst v3;intro v4 h4;change _=_ at h4;subst v4;intro v5 h5;change _=_ at h5;subst v5;intro v6 h6;change _=_ at h6;subst v6;intro v7 h7;change _=_ at h7;intro v8 h8;change _=_ at h8;subst v8;intro v9 h9;change _=_ at h9
   intro v10 h10;change _=_ at h10;subst v10;intro v11 h11;change _=_ at h11
   simp only [Given,gv2]
   have HB:=Lib.hid hI.bel
   obtain ⟨x0,x1,x2,x3,x4,x5⟩:=cells6 hI.row
   have q0:=hI.c0
   have q4:=hI.c4
   have q3:w9.cell? ⟨(w.heap.size+1),5,none⟩=some (.slice none 0 0):=hI.cx
   clear hI hri hr6 hb0
   rename_i Q9 K9 hKK
   show K9 _ _
   refine hKK _ _ ?_
   go_wp2
   go_ret
   exact ⟨by first | rfl | (simp;omega),HB.out⟩
 ·have f0:decide (pr=0)=false:=decide_eq_false c0
  have g0:decide ((0:Int)=(pr:Int))=false:=decide_eq_false (by omega)
  have k0:((0:Int) == (pr:Int))=false:=by simp;omega
  obtain rfl:B=false:=by rw [← hB];simp [c0]
  clear hB
  go_enter Tryz.func62,Tryz.ntmps62
  go_wp2_with fail
  have hb0:(World.drew ((w.alloc (.cells #[.int .i64 5,.int .i64 pid,.int .i64 ad,.int .i64 n,.int .i64 pr,.slice a dn dc] 39)).alloc (.cells #[.int .i64 5,.int .i64 0,.int .i64 0,.int .i64 0,.int .i64 0,.slice none 0 0] 39))).heap[w.heap.size]?=some (.cells #[.int .i64 5,.int .i64 pid,.int .i64 ad,.int .i64 n,.int .i64 pr,.slice a dn dc] 39 (0,0)):=al2_0 _ _ _
  have hr6:Row6 39 (w.heap.size+1) (World.drew ((w.alloc (.cells #[.int .i64 5,.int .i64 pid,.int .i64 ad,.int .i64 n,.int .i64 pr,.slice a dn dc] 39)).alloc (.cells #[.int .i64 5,.int .i64 0,.int .i64 0,.int .i64 0,.int .i64 0,.slice none 0 0] 39))):=⟨_,_,_,_,_,_,al2_1 _ _ _⟩
  have hri:RtI w #[.int .i64 5,.int .i64 pid,.int .i64 ad,.int .i64 n,.int .i64 pr,.slice a dn dc] (.int .i64 5) (.int .i64 0) 5 (.slice none 0 0) (World.drew ((w.alloc (.cells #[.int .i64 5,.int .i64 pid,.int .i64 ad,.int .i64 n,.int .i64 pr,.slice a dn dc] 39)).alloc (.cells #[.int .i64 5,.int .i64 0,.int .i64 0,.int .i64 0,.int .i64 0,.slice none 0 0] 39))):=rti_start _ _ _ _ (by decide) rfl
  refine' reg_order [eqV _,eqV _,eqV _,eqV _,eqV _,eqV _,eqV _,(fun _ w5=>w5.cell? ⟨(w.heap.size+1),1,none⟩=some (.int .i64 pid)),eqV _,(fun _ w5=>w5.cell? ⟨(w.heap.size+1),2,none⟩=some (.int .i64 ad)),eqV _,(fun _ w5=>w5.cell? ⟨(w.heap.size+1),3,none⟩=some (.int .i64 n))] [(7,fun w5 w6=>Wr (w.heap.size+1) 1 w5 w6),(9,fun w5 w6=>Wr (w.heap.size+1) 2 w5 w6),(11,fun w5 w6=>Wr (w.heap.size+1) 3 w5 w6)] [(1,fun w5=>w5.heap[w.heap.size]?=some (.cells #[.int .i64 5,.int .i64 pid,.int .i64 ad,.int .i64 n,.int .i64 pr,.slice a dn dc] 39 (0,0))),(3,fun w5=>w5.heap[w.heap.size]?=some (.cells #[.int .i64 5,.int .i64 pid,.int .i64 ad,.int .i64 n,.int .i64 pr,.slice a dn dc] 39 (0,0))),(5,fun w5=>w5.heap[w.heap.size]?=some (.cells #[.int .i64 5,.int .i64 pid,.int .i64 ad,.int .i64 n,.int .i64 pr,.slice a dn dc] 39 (0,0))),(7,fun w5=>Row6 39 (w.heap.size+1) w5),(9,fun w5=>Row6 39 (w.heap.size+1) w5),(11,fun w5=>Row6 39 (w.heap.size+1) w5),(12,fun w5=>RtI w #[.int .i64 5,.int .i64 pid,.int .i64 ad,.int .i64 n,.int .i64 pr,.slice a dn dc] (.int .i64 5) (.int .i64 0) 5 (.slice none 0 0) w5)] [20,21,22,23,24,25,26,88,27,90,28,92] [[],[0],[],[2],[],[4],[],[1,6],[],[3,8],[],[5,10]] [0,1,2,3,4,5,6,7,8,9,10,11] 12 (by kernel_rfl) ⟨eS _,eS _,eS _,eS _,eS _,eS _,eS _,fun _ _ _ p b=>cel b p,eS _,fun _ _ _ p b=>cel b p,eS _,fun _ _ _ p b=>cel b p,trivial⟩ ⟨⟨.inl (eS _),.inl (eS _),.inl (eS _),.inl (eS _),.inl (eS _),.inl (eS _),.inl (eS _),.inr (.inr rfl),.inl (eS _),.inr (.inl (by kernel_rfl)),.inl (eS _),.inr (.inl (by kernel_rfl)),trivial⟩,⟨.inl (eS _),.inl (eS _),.inl (eS _),.inl (eS _),.inl (eS _),.inl (eS _),.inl (eS _),.inl (fun _ _ _ p g=>Wr.cell g p (by decide)),.inl (eS _),.inr (.inr rfl),.inl (eS _),.inr (.inl (by kernel_rfl)),trivial⟩,⟨.inl (eS _),.inl (eS _),.inl (eS _),.inl (eS _),.inl (eS _),.inl (eS _),.inl (eS _),.inl (fun _ _ _ p g=>Wr.cell g p (by decide)),.inl (eS _),.inl (fun _ _ _ p g=>Wr.cell g p (by decide)),.inl (eS _),.inr (.inr rfl),trivial⟩,trivial⟩ ⟨fun _ _ p b=>row_keep p b,fun _ _ p b=>row_keep p b,fun _ _ p b=>row_keep p b,fun _ _ p b=>Row6.keep p b,fun _ _ p b=>Row6.keep p b,fun _ _ p b=>Row6.keep p b,fun _ _ p b=>RtI.keep p b,trivial⟩ ⟨⟨.inr (.inl (by kernel_rfl)),.inl (fun _ _ p g=>Wr.other g p (by omega)),.inl (fun _ _ p g=>Wr.other g p (by omega)),.inr (.inr rfl),.inl (fun _ _ p g=>Wr.row6 g p (by decide)),.inl (fun _ _ p g=>Wr.row6 g p (by decide)),.inl (fun _ _ p g=>RtI.wr p g (by decide)),trivial⟩,⟨.inr (.inl (by kernel_rfl)),.inr (.inl (by kernel_rfl)),.inl (fun _ _ p g=>Wr.other g p (by omega)),.inr (.inl (by kernel_rfl)),.inr (.inr rfl),.inl (fun _ _ p g=>Wr.row6 g p (by decide)),.inl (fun _ _ p g=>RtI.wr p g (by decide)),trivial⟩,⟨.inr (.inl (by kernel_rfl)),.inr (.inl (by kernel_rfl)),.inr (.inl (by kernel_rfl)),.inr (.inl (by kernel_rfl)),.inr (.inl (by kernel_rfl)),.inr (.inr rfl),.inl (fun _ _ p g=>RtI.wr p g (by decide)),trivial⟩,trivial⟩ ⟨hb0,hb0,hb0,hr6,hr6,hr6,hri,trivial⟩ 81 rfl (by kernel_rfl) (by kernel_rfl) rfl rfl 12 rfl ?q6obl ?q6fin
  case q6obl=>
   refine ⟨?q6o0,?q6o1,?q6o2,?q6o3,?q6o4,?q6o5,?q6o6,?q6o7,?q6o8,?q6o9,?q6o10,?q6o11,trivial⟩
   case q6o0 | q6o2 | q6o4 | q6o6 | q6o8 | q6o10=>
    intro w1 hI;refine t2o (by rfl) ?_;intro K hK;go_simp;refine hK _ _ ⟨rfl,Kept.refl _,?_⟩;show _=_;simp only [gv1];rfl
   case q6o1=>
    intro w1 hI
    replace hI:(fun w5=>w5.heap[w.heap.size]?=some (.cells #[.int .i64 5,.int .i64 pid,.int .i64 ad,.int .i64 n,.int .i64 pr,.slice a dn dc] 39 (0,0))) w1:=hI
    intro v0 h0;change _=_ at h0;subst v0;refine t2o (by rfl) ?_;intro K hK;simp only [gv2]
    have hc:=cell_of_row w1 w.heap.size 1 _ _ _ hI
    go_simp;refine hK _ _ ⟨rfl,Kept.refl _,?_⟩;show _=_;simp only [gv1];rfl
   case q6o3=>
    intro w1 hI
    replace hI:(fun w5=>w5.heap[w.heap.size]?=some (.cells #[.int .i64 5,.int .i64 pid,.int .i64 ad,.int .i64 n,.int .i64 pr,.slice a dn dc] 39 (0,0))) w1:=hI
    intro v2 h2;change _=_ at h2;subst v2;refine t2o (by rfl) ?_;intro K hK;simp only [gv2]
    have hc:=cell_of_row w1 w.heap.size 2 _ _ _ hI
    go_simp;refine hK _ _ ⟨rfl,Kept.refl _,?_⟩;show _=_;simp only [gv1];rfl
   case q6o5=>
    intro w1 hI
    replace hI:(fun w5=>w5.heap[w.heap.size]?=some (.cells #[.int .i64 5,.int .i64 pid,.int .i64 ad,.int .i64 n,.int .i64 pr,.slice a dn dc] 39 (0,0))) w1:=hI
    intro v4 h4;change _=_ at h4;subst v4;refine t2o (by rfl) ?_;intro K hK;simp only [gv2]
    have hc:=cell_of_row w1 w.heap.size 3 _ _ _ hI
    go_simp;refine hK _ _ ⟨rfl,Kept.refl _,?_⟩;show _=_;simp only [gv1];rfl
   case q6o7=>
    intro w1 hI
    replace hI:(fun w5=>Row6 39 (w.heap.size+1) w5) w1:=hI
    intro v1 h1;change _=_ at h1;subst v1;intro v6 h6;change _=_ at h6;subst v6;refine t2o (by rfl) ?_;intro K hK;simp only [gv2]
    obtain ⟨e1,e2,y,e3⟩:=Row6.set hI (i:=1) (by decide) (.int .i64 pid)
    go_simp
    refine hK _ _ ⟨rfl,⟨_,rfl⟩,?_⟩
    exact e1
   case q6o9=>
    intro w1 hI
    replace hI:(fun w5=>Row6 39 (w.heap.size+1) w5) w1:=hI
    intro v3 h3;change _=_ at h3;subst v3;intro v8 h8;change _=_ at h8;subst v8;refine t2o (by rfl) ?_;intro K hK;simp only [gv2]
    obtain ⟨e1,e2,y,e3⟩:=Row6.set hI (i:=2) (by decide) (.int .i64 ad)
    go_simp
    refine hK _ _ ⟨rfl,⟨_,rfl⟩,?_⟩
    exact e1
   case q6o11=>
    intro w1 hI
    replace hI:(fun w5=>Row6 39 (w.heap.size+1) w5) w1:=hI
    intro v5 h5;change _=_ at h5;subst v5;intro v10 h10;change _=_ at h10;subst v10;refine t2o (by rfl) ?_;intro K hK;simp only [gv2]
    obtain ⟨e1,e2,y,e3⟩:=Row6.set hI (i:=3) (by decide) (.int .i64 n)
    go_simp
    refine hK _ _ ⟨rfl,⟨_,rfl⟩,?_⟩
    exact e1
  intro w9 hI
  replace hI:(fun w5=>RtI w #[.int .i64 5,.int .i64 pid,.int .i64 ad,.int .i64 n,.int .i64 pr,.slice a dn dc] (.int .i64 5) (.int .i64 0) 5 (.slice none 0 0) w5) w9:=hI
  intro v0 h0;change _=_ at h0;subst v0;intro v1 h1;change _=_ at h1;subst v1;intro v2 h2;change _=_ at h2;subst v2;intro v3 h3;change _=_ at h3;subst v3;intro v4 h4;change _=_ at h4;subst v4;intro v5 h5;change _=_ at h5;subst v5;intro v6 h6;change _=_ at h6;subst v6;intro v7 h7;change _=_ at h7;intro v8 h8;change _=_ at h8;subst v8;intro v9 h9;change _=_ at h9
  intro v10 h10;change _=_ at h10;subst v10;intro v11 h11;change _=_ at h11
  simp only [Given,gv2]
  have HB:=Lib.hid hI.bel
  obtain ⟨x0,x1,x2,x3,x4,x5⟩:=cells6 hI.row
  have q0:=hI.c0
  have q4:=hI.c4
  have q3:w9.cell? ⟨(w.heap.size+1),5,none⟩=some (.slice none 0 0):=hI.cx
  clear hI hri hr6 hb0
  rename_i Q9 K9 hKK
  show K9 _ _
  refine hKK _ _ ?_
  go_wp2
  go_ret
  exact ⟨by first | rfl | (simp;omega),HB.out⟩
set_option maxHeartbeats 1000000 in
theorem right_6 (B:Bool) (hB:(decide (n=0) && decide (pr=0))=B):Calls Tryz.prog 62 #[.agg #[.int .i64 6,.int .i64 pid,.int .i64 ad,.int .i64 n,.int .i64 pr,.slice a dn dc]] w fun e w'=>e = .returned (.bool B)∧Below w.heap.size w w':=by
 by_cases c0:n=0
 ·subst c0
  by_cases c1:pr=0
  ·subst c1
   obtain rfl:B=true:=by rw [← hB];simp
   clear hB
   go_enter Tryz.func62,Tryz.ntmps62
   go_wp2_with fail
   have hb0:(World.drew ((w.alloc (.cells #[.int .i64 6,.int .i64 pid,.int .i64 ad,.int .i64 0,.int .i64 0,.slice a dn dc] 39)).alloc (.cells #[.int .i64 6,.int .i64 0,.int .i64 0,.int .i64 0,.int .i64 0,.slice none 0 0] 39))).heap[w.heap.size]?=some (.cells #[.int .i64 6,.int .i64 pid,.int .i64 ad,.int .i64 0,.int .i64 0,.slice a dn dc] 39 (0,0)):=al2_0 _ _ _
   have hr6:Row6 39 (w.heap.size+1) (World.drew ((w.alloc (.cells #[.int .i64 6,.int .i64 pid,.int .i64 ad,.int .i64 0,.int .i64 0,.slice a dn dc] 39)).alloc (.cells #[.int .i64 6,.int .i64 0,.int .i64 0,.int .i64 0,.int .i64 0,.slice none 0 0] 39))):=⟨_,_,_,_,_,_,al2_1 _ _ _⟩
   have hri:RtI w #[.int .i64 6,.int .i64 pid,.int .i64 ad,.int .i64 0,.int .i64 0,.slice a dn dc] (.int .i64 6) (.int .i64 0) 3 (.int .i64 0) (World.drew ((w.alloc (.cells #[.int .i64 6,.int .i64 pid,.int .i64 ad,.int .i64 0,.int .i64 0,.slice a dn dc] 39)).alloc (.cells #[.int .i64 6,.int .i64 0,.int .i64 0,.int .i64 0,.int .i64 0,.slice none 0 0] 39))):=rti_start _ _ _ _ (by decide) rfl
   refine' reg_order [eqV _,eqV _,eqV _,eqV _,eqV _,eqV _,eqV _,(fun _ w5=>w5.cell? ⟨(w.heap.size+1),1,none⟩=some (.int .i64 pid)),eqV _,(fun _ w5=>w5.cell? ⟨(w.heap.size+1),2,none⟩=some (.int .i64 ad)),eqV _,(fun _ w5=>w5.cell? ⟨(w.heap.size+1),5,none⟩=some (.slice a dn dc))] [(7,fun w5 w6=>Wr (w.heap.size+1) 1 w5 w6),(9,fun w5 w6=>Wr (w.heap.size+1) 2 w5 w6),(11,fun w5 w6=>Wr (w.heap.size+1) 5 w5 w6)] [(1,fun w5=>w5.heap[w.heap.size]?=some (.cells #[.int .i64 6,.int .i64 pid,.int .i64 ad,.int .i64 0,.int .i64 0,.slice a dn dc] 39 (0,0))),(3,fun w5=>w5.heap[w.heap.size]?=some (.cells #[.int .i64 6,.int .i64 pid,.int .i64 ad,.int .i64 0,.int .i64 0,.slice a dn dc] 39 (0,0))),(5,fun w5=>w5.heap[w.heap.size]?=some (.cells #[.int .i64 6,.int .i64 pid,.int .i64 ad,.int .i64 0,.int .i64 0,.slice a dn dc] 39 (0,0))),(7,fun w5=>Row6 39 (w.heap.size+1) w5),(9,fun w5=>Row6 39 (w.heap.size+1) w5),(11,fun w5=>Row6 39 (w.heap.size+1) w5),(12,fun w5=>RtI w #[.int .i64 6,.int .i64 pid,.int .i64 ad,.int .i64 0,.int .i64 0,.slice a dn dc] (.int .i64 6) (.int .i64 0) 3 (.int .i64 0) w5)] [31,32,33,34,35,36,37,88,38,90,39,92] [[],[0],[],[2],[],[4],[],[1,6],[],[3,8],[],[5,10]] [0,1,2,3,4,5,6,7,8,9,10,11] 12 (by kernel_rfl) ⟨eS _,eS _,eS _,eS _,eS _,eS _,eS _,fun _ _ _ p b=>cel b p,eS _,fun _ _ _ p b=>cel b p,eS _,fun _ _ _ p b=>cel b p,trivial⟩ ⟨⟨.inl (eS _),.inl (eS _),.inl (eS _),.inl (eS _),.inl (eS _),.inl (eS _),.inl (eS _),.inr (.inr rfl),.inl (eS _),.inr (.inl (by kernel_rfl)),.inl (eS _),.inr (.inl (by kernel_rfl)),trivial⟩,⟨.inl (eS _),.inl (eS _),.inl (eS _),.inl (eS _),.inl (eS _),.inl (eS _),.inl (eS _),.inl (fun _ _ _ p g=>Wr.cell g p (by decide)),.inl (eS _),.inr (.inr rfl),.inl (eS _),.inr (.inl (by kernel_rfl)),trivial⟩,⟨.inl (eS _),.inl (eS _),.inl (eS _),.inl (eS _),.inl (eS _),.inl (eS _),.inl (eS _),.inl (fun _ _ _ p g=>Wr.cell g p (by decide)),.inl (eS _),.inl (fun _ _ _ p g=>Wr.cell g p (by decide)),.inl (eS _),.inr (.inr rfl),trivial⟩,trivial⟩ ⟨fun _ _ p b=>row_keep p b,fun _ _ p b=>row_keep p b,fun _ _ p b=>row_keep p b,fun _ _ p b=>Row6.keep p b,fun _ _ p b=>Row6.keep p b,fun _ _ p b=>Row6.keep p b,fun _ _ p b=>RtI.keep p b,trivial⟩ ⟨⟨.inr (.inl (by kernel_rfl)),.inl (fun _ _ p g=>Wr.other g p (by omega)),.inl (fun _ _ p g=>Wr.other g p (by omega)),.inr (.inr rfl),.inl (fun _ _ p g=>Wr.row6 g p (by decide)),.inl (fun _ _ p g=>Wr.row6 g p (by decide)),.inl (fun _ _ p g=>RtI.wr p g (by decide)),trivial⟩,⟨.inr (.inl (by kernel_rfl)),.inr (.inl (by kernel_rfl)),.inl (fun _ _ p g=>Wr.other g p (by omega)),.inr (.inl (by kernel_rfl)),.inr (.inr rfl),.inl (fun _ _ p g=>Wr.row6 g p (by decide)),.inl (fun _ _ p g=>RtI.wr p g (by decide)),trivial⟩,⟨.inr (.inl (by kernel_rfl)),.inr (.inl (by kernel_rfl)),.inr (.inl (by kernel_rfl)),.inr (.inl (by kernel_rfl)),.inr (.inl (by kernel_rfl)),.inr (.inr rfl),.inl (fun _ _ p g=>RtI.wr p g (by decide)),trivial⟩,trivial⟩ ⟨hb0,hb0,hb0,hr6,hr6,hr6,hri,trivial⟩ 81 rfl (by kernel_rfl) (by kernel_rfl) rfl rfl 12 rfl ?q7obl ?q7fin
   case q7obl=>
    refine ⟨?q7o0,?q7o1,?q7o2,?q7o3,?q7o4,?q7o5,?q7o6,?q7o7,?q7o8,?q7o9,?q7o10,?q7o11,trivial⟩
    case q7o0 | q7o2 | q7o4 | q7o6 | q7o8 | q7o10=>
     intro w1 hI;refine t2o (by rfl) ?_;intro K hK;go_simp;refine hK _ _ ⟨rfl,Kept.refl _,?_⟩;show _=_;simp only [gv1];rfl
    case q7o1=>
     intro w1 hI
     replace hI:(fun w5=>w5.heap[w.heap.size]?=some (.cells #[.int .i64 6,.int .i64 pid,.int .i64 ad,.int .i64 0,.int .i64 0,.slice a dn dc] 39 (0,0))) w1:=hI
     intro v0 h0;change _=_ at h0;subst v0;refine t2o (by rfl) ?_;intro K hK;simp only [gv2]
     have hc:=cell_of_row w1 w.heap.size 1 _ _ _ hI
     go_simp;refine hK _ _ ⟨rfl,Kept.refl _,?_⟩;show _=_;simp only [gv1];rfl
    case q7o3=>
     intro w1 hI
     replace hI:(fun w5=>w5.heap[w.heap.size]?=some (.cells #[.int .i64 6,.int .i64 pid,.int .i64 ad,.int .i64 0,.int .i64 0,.slice a dn dc] 39 (0,0))) w1:=hI
     intro v2 h2;change _=_ at h2;subst v2;refine t2o (by rfl) ?_;intro K hK;simp only [gv2]
     have hc:=cell_of_row w1 w.heap.size 2 _ _ _ hI
     go_simp;refine hK _ _ ⟨rfl,Kept.refl _,?_⟩;show _=_;simp only [gv1];rfl
    case q7o5=>
     intro w1 hI
     replace hI:(fun w5=>w5.heap[w.heap.size]?=some (.cells #[.int .i64 6,.int .i64 pid,.int .i64 ad,.int .i64 0,.int .i64 0,.slice a dn dc] 39 (0,0))) w1:=hI
     intro v4 h4;change _=_ at h4;subst v4;refine t2o (by rfl) ?_;intro K hK;simp only [gv2]
     have hc:=cell_of_row w1 w.heap.size 5 _ _ _ hI
     go_simp;refine hK _ _ ⟨rfl,Kept.refl _,?_⟩;show _=_;simp only [gv1];rfl
    case q7o7=>
     intro w1 hI
     replace hI:(fun w5=>Row6 39 (w.heap.size+1) w5) w1:=hI
     intro v1 h1;change _=_ at h1;subst v1;intro v6 h6;change _=_ at h6;subst v6;refine t2o (by rfl) ?_;intro K hK;simp only [gv2]
     obtain ⟨e1,e2,y,e3⟩:=Row6.set hI (i:=1) (by decide) (.int .i64 pid)
     go_simp
     refine hK _ _ ⟨rfl,⟨_,rfl⟩,?_⟩
     exact e1
    case q7o9=>
     intro w1 hI
     replace hI:(fun w5=>Row6 39 (w.heap.size+1) w5) w1:=hI
     intro v3 h3;change _=_ at h3;subst v3;intro v8 h8;change _=_ at h8;subst v8;refine t2o (by rfl) ?_;intro K hK;simp only [gv2]
     obtain ⟨e1,e2,y,e3⟩:=Row6.set hI (i:=2) (by decide) (.int .i64 ad)
     go_simp
     refine hK _ _ ⟨rfl,⟨_,rfl⟩,?_⟩
     exact e1
    case q7o11=>
     intro w1 hI
     replace hI:(fun w5=>Row6 39 (w.heap.size+1) w5) w1:=hI
     intro v5 h5;change _=_ at h5;subst v5;intro v10 h10;change _=_ at h10;subst v10;refine t2o (by rfl) ?_;intro K hK;simp only [gv2]
     obtain ⟨e1,e2,y,e3⟩:=Row6.set hI (i:=5) (by decide) (.slice a dn dc)
     go_simp
     refine hK _ _ ⟨rfl,⟨_,rfl⟩,?_⟩
     exact e1
   intro w9 hI
   replace hI:(fun w5=>RtI w #[.int .i64 6,.int .i64 pid,.int .i64 ad,.int .i64 0,.int .i64 0,.slice a dn dc] (.int .i64 6) (.int .i64 0) 3 (.int .i64 0) w5) w9:=hI
   intro v0 h0;change _=_ at h0;subst v0;intro v1 h1;change _=_ at h1;subst v1;intro v2 h2;change _=_ at h2;subst v2;intro v3 h3;change _=_ at h3;subst v3;intro v4 h4;change _=_ at h4;subst v4;intro v5 h5;change _=_ at h5;subst v5;intro v6 h6;change _=_ at h6;subst v6;intro v7 h7;change _=_ at h7;intro v8 h8;change _=_ at h8;subst v8;intro v9 h9;change _=_ at h9
   intro v10 h10;change _=_ at h10;subst v10;intro v11 h11;change _=_ at h11
   simp only [Given,gv2]
   have HB:=Lib.hid hI.bel
   obtain ⟨x0,x1,x2,x3,x4,x5⟩:=cells6 hI.row
   have q0:=hI.c0
   have q4:=hI.c4
   have q3:w9.cell? ⟨(w.heap.size+1),3,none⟩=some (.int .i64 0):=hI.cx
   clear hI hri hr6 hb0
   rename_i Q9 K9 hKK
   show K9 _ _
   refine hKK _ _ ?_
   go_wp2
   go_ret
   exact ⟨by first | rfl | (simp;omega),HB.out⟩
  ·have f1:decide (pr=0)=false:=decide_eq_false c1
   have g1:decide ((0:Int)=(pr:Int))=false:=decide_eq_false (by omega)
   have k1:((0:Int) == (pr:Int))=false:=by simp;omega
   obtain rfl:B=false:=by rw [← hB];simp [c1]
   clear hB
   go_enter Tryz.func62,Tryz.ntmps62
   go_wp2_with fail
   have hb0:(World.drew ((w.alloc (.cells #[.int .i64 6,.int .i64 pid,.int .i64 ad,.int .i64 0,.int .i64 pr,.slice a dn dc] 39)).alloc (.cells #[.int .i64 6,.int .i64 0,.int .i64 0,.int .i64 0,.int .i64 0,.slice none 0 0] 39))).heap[w.heap.size]?=some (.cells #[.int .i64 6,.int .i64 pid,.int .i64 ad,.int .i64 0,.int .i64 pr,.slice a dn dc] 39 (0,0)):=al2_0 _ _ _
   have hr6:Row6 39 (w.heap.size+1) (World.drew ((w.alloc (.cells #[.int .i64 6,.int .i64 pid,.int .i64 ad,.int .i64 0,.int .i64 pr,.slice a dn dc] 39)).alloc (.cells #[.int .i64 6,.int .i64 0,.int .i64 0,.int .i64 0,.int .i64 0,.slice none 0 0] 39))):=⟨_,_,_,_,_,_,al2_1 _ _ _⟩
   have hri:RtI w #[.int .i64 6,.int .i64 pid,.int .i64 ad,.int .i64 0,.int .i64 pr,.slice a dn dc] (.int .i64 6) (.int .i64 0) 3 (.int .i64 0) (World.drew ((w.alloc (.cells #[.int .i64 6,.int .i64 pid,.int .i64 ad,.int .i64 0,.int .i64 pr,.slice a dn dc] 39)).alloc (.cells #[.int .i64 6,.int .i64 0,.int .i64 0,.int .i64 0,.int .i64 0,.slice none 0 0] 39))):=rti_start _ _ _ _ (by decide) rfl
   refine' reg_order [eqV _,eqV _,eqV _,eqV _,eqV _,eqV _,eqV _,(fun _ w5=>w5.cell? ⟨(w.heap.size+1),1,none⟩=some (.int .i64 pid)),eqV _,(fun _ w5=>w5.cell? ⟨(w.heap.size+1),2,none⟩=some (.int .i64 ad)),eqV _,(fun _ w5=>w5.cell? ⟨(w.heap.size+1),5,none⟩=some (.slice a dn dc))] [(7,fun w5 w6=>Wr (w.heap.size+1) 1 w5 w6),(9,fun w5 w6=>Wr (w.heap.size+1) 2 w5 w6),(11,fun w5 w6=>Wr (w.heap.size+1) 5 w5 w6)] [(1,fun w5=>w5.heap[w.heap.size]?=some (.cells #[.int .i64 6,.int .i64 pid,.int .i64 ad,.int .i64 0,.int .i64 pr,.slice a dn dc] 39 (0,0))),(3,fun w5=>w5.heap[w.heap.size]?=some (.cells #[.int .i64 6,.int .i64 pid,.int .i64 ad,.int .i64 0,.int .i64 pr,.slice a dn dc] 39 (0,0))),(5,fun w5=>w5.heap[w.heap.size]?=some (.cells #[.int .i64 6,.int .i64 pid,.int .i64 ad,.int .i64 0,.int .i64 pr,.slice a dn dc] 39 (0,0))),(7,fun w5=>Row6 39 (w.heap.size+1) w5),(9,fun w5=>Row6 39 (w.heap.size+1) w5),(11,fun w5=>Row6 39 (w.heap.size+1) w5),(12,fun w5=>RtI w #[.int .i64 6,.int .i64 pid,.int .i64 ad,.int .i64 0,.int .i64 pr,.slice a dn dc] (.int .i64 6) (.int .i64 0) 3 (.int .i64 0) w5)] [31,32,33,34,35,36,37,88,38,90,39,92] [[],[0],[],[2],[],[4],[],[1,6],[],[3,8],[],[5,10]] [0,1,2,3,4,5,6,7,8,9,10,11] 12 (by kernel_rfl) ⟨eS _,eS _,eS _,eS _,eS _,eS _,eS _,fun _ _ _ p b=>cel b p,eS _,fun _ _ _ p b=>cel b p,eS _,fun _ _ _ p b=>cel b p,trivial⟩ ⟨⟨.inl (eS _),.inl (eS _),.inl (eS _),.inl (eS _),.inl (eS _),.inl (eS _),.inl (eS _),.inr (.inr rfl),.inl (eS _),.inr (.inl (by kernel_rfl)),.inl (eS _),.inr (.inl (by kernel_rfl)),trivial⟩,⟨.inl (eS _),.inl (eS _),.inl (eS _),.inl (eS _),.inl (eS _),.inl (eS _),.inl (eS _),.inl (fun _ _ _ p g=>Wr.cell g p (by decide)),.inl (eS _),.inr (.inr rfl),.inl (eS _),.inr (.inl (by kernel_rfl)),trivial⟩,⟨.inl (eS _),.inl (eS _),.inl (eS _),.inl (eS _),.inl (eS _),.inl (eS _),.inl (eS _),.inl (fun _ _ _ p g=>Wr.cell g p (by decide)),.inl (eS _),.inl (fun _ _ _ p g=>Wr.cell g p (by decide)),.inl (eS _),.inr (.inr rfl),trivial⟩,trivial⟩ ⟨fun _ _ p b=>row_keep p b,fun _ _ p b=>row_keep p b,fun _ _ p b=>row_keep p b,fun _ _ p b=>Row6.keep p b,fun _ _ p b=>Row6.keep p b,fun _ _ p b=>Row6.keep p b,fun _ _ p b=>RtI.keep p b,trivial⟩ ⟨⟨.inr (.inl (by kernel_rfl)),.inl (fun _ _ p g=>Wr.other g p (by omega)),.inl (fun _ _ p g=>Wr.other g p (by omega)),.inr (.inr rfl),.inl (fun _ _ p g=>Wr.row6 g p (by decide)),.inl (fun _ _ p g=>Wr.row6 g p (by decide)),.inl (fun _ _ p g=>RtI.wr p g (by decide)),trivial⟩,⟨.inr (.inl (by kernel_rfl)),.inr (.inl (by kernel_rfl)),.inl (fun _ _ p g=>Wr.other g p (by omega)),.inr (.inl (by kernel_rfl)),.inr (.inr rfl),.inl (fun _ _ p g=>Wr.row6 g p (by decide)),.inl (fun _ _ p g=>RtI.wr p g (by decide)),trivial⟩,⟨.inr (.inl (by kernel_rfl)),.inr (.inl (by kernel_rfl)),.inr (.inl (by kernel_rfl)),.inr (.inl (by kernel_rfl)),.inr (.inl (by kernel_rfl)),.inr (.inr rfl),.inl (fun _ _ p g=>RtI.wr p g (by decide)),trivial⟩,trivial⟩ ⟨hb0,hb0,hb0,hr6,hr6,hr6,hri,trivial⟩ 81 rfl (by kernel_rfl) (by kernel_rfl) rfl rfl 12 rfl ?q8obl ?q8fin
   case q8obl=>
    refine ⟨?q8o0,?q8o1,?q8o2,?q8o3,?q8o4,?q8o5,?q8o6,?q8o7,?q8o8,?q8o9,?q8o10,?q8o11,trivial⟩
    case q8o0 | q8o2 | q8o4 | q8o6 | q8o8 | q8o10=>
     intro w1 hI;refine t2o (by rfl) ?_;intro K hK;go_simp;refine hK _ _ ⟨rfl,Kept.refl _,?_⟩;show _=_;simp only [gv1];rfl
    case q8o1=>
     intro w1 hI
     replace hI:(fun w5=>w5.heap[w.heap.size]?=some (.cells #[.int .i64 6,.int .i64 pid,.int .i64 ad,.int .i64 0,.int .i64 pr,.slice a dn dc] 39 (0,0))) w1:=hI
     intro v0 h0;change _=_ at h0;subst v0;refine t2o (by rfl) ?_;intro K hK;simp only [gv2]
     have hc:=cell_of_row w1 w.heap.size 1 _ _ _ hI
     go_simp;refine hK _ _ ⟨rfl,Kept.refl _,?_⟩;show _=_;simp only [gv1];rfl
    case q8o3=>
     intro w1 hI
     replace hI:(fun w5=>w5.heap[w.heap.size]?=some (.cells #[.int .i64 6,.int .i64 pid,.int .i64 ad,.int .i64 0,.int .i64 pr,.slice a dn dc] 39 (0,0))) w1:=hI
     intro v2 h2;change _=_ at h2;subst v2;refine t2o (by rfl) ?_;intro K hK;simp only [gv2]
     have hc:=cell_of_row w1 w.heap.size 2 _ _ _ hI
     go_simp;refine hK _ _ ⟨rfl,Kept.refl _,?_⟩;show _=_;simp only [gv1];rfl
    case q8o5=>
     intro w1 hI
     replace hI:(fun w5=>w5.heap[w.heap.size]?=some (.cells #[.int .i64 6,.int .i64 pid,.int .i64 ad,.int .i64 0,.int .i64 pr,.slice a dn dc] 39 (0,0))) w1:=hI
     intro v4 h4;change _=_ at h4;subst v4;refine t2o (by rfl) ?_;intro K hK;simp only [gv2]
     have hc:=cell_of_row w1 w.heap.size 5 _ _ _ hI
     go_simp;refine hK _ _ ⟨rfl,Kept.refl _,?_⟩;show _=_;simp only [gv1];rfl
    case q8o7=>
     intro w1 hI
     replace hI:(fun w5=>Row6 39 (w.heap.size+1) w5) w1:=hI
     intro v1 h1;change _=_ at h1;subst v1;intro v6 h6;change _=_ at h6;subst v6;refine t2o (by rfl) ?_;intro K hK;simp only [gv2]
     obtain ⟨e1,e2,y,e3⟩:=Row6.set hI (i:=1) (by decide) (.int .i64 pid)
     go_simp
     refine hK _ _ ⟨rfl,⟨_,rfl⟩,?_⟩
     exact e1
    case q8o9=>
     intro w1 hI
     replace hI:(fun w5=>Row6 39 (w.heap.size+1) w5) w1:=hI
     intro v3 h3;change _=_ at h3;subst v3;intro v8 h8;change _=_ at h8;subst v8;refine t2o (by rfl) ?_;intro K hK;simp only [gv2]
     obtain ⟨e1,e2,y,e3⟩:=Row6.set hI (i:=2) (by decide) (.int .i64 ad)
     go_simp
     refine hK _ _ ⟨rfl,⟨_,rfl⟩,?_⟩
     exact e1
    case q8o11=>
     intro w1 hI
     replace hI:(fun w5=>Row6 39 (w.heap.size+1) w5) w1:=hI
     intro v5 h5;change _=_ at h5;subst v5;intro v10 h10;change _=_ at h10;subst v10;refine t2o (by rfl) ?_;intro K hK;simp only [gv2]
     obtain ⟨e1,e2,y,e3⟩:=Row6.set hI (i:=5) (by decide) (.slice a dn dc)
     go_simp
     refine hK _ _ ⟨rfl,⟨_,rfl⟩,?_⟩
     exact e1
   intro w9 hI
   replace hI:(fun w5=>RtI w #[.int .i64 6,.int .i64 pid,.int .i64 ad,.int .i64 0,.int .i64 pr,.slice a dn dc] (.int .i64 6) (.int .i64 0) 3 (.int .i64 0) w5) w9:=hI
   intro v0 h0;change _=_ at h0;subst v0;intro v1 h1;change _=_ at h1;subst v1;intro v2 h2;change _=_ at h2;subst v2;intro v3 h3;change _=_ at h3;subst v3;intro v4 h4;change _=_ at h4;subst v4;intro v5 h5;change _=_ at h5;subst v5;intro v6 h6;change _=_ at h6;subst v6;intro v7 h7;change _=_ at h7;intro v8 h8;change _=_ at h8;subst v8;intro v9 h9;change _=_ at h9
   intro v10 h10;change _=_ at h10;subst v10;intro v11 h11;change _=_ at h11
   simp only [Given,gv2]
   have HB:=Lib.hid hI.bel
   obtain ⟨x0,x1,x2,x3,x4,x5⟩:=cells6 hI.row
   have q0:=hI.c0
   have q4:=hI.c4
   have q3:w9.cell? ⟨(w.heap.size+1),3,none⟩=some (.int .i64 0):=hI.cx
   clear hI hri hr6 hb0
   rename_i Q9 K9 hKK
   show K9 _ _
   refine hKK _ _ ?_
   go_wp2
   go_ret
   exact ⟨by first | rfl | (simp;omega),HB.out⟩
 ·have f0:decide (n=0)=false:=decide_eq_false c0
  have g0:decide ((0:Int)=(n:Int))=false:=decide_eq_false (by omega)
  have k0:((0:Int) == (n:Int))=false:=by simp;omega
  obtain rfl:B=false:=by rw [← hB];simp [c0]
  clear hB
  go_enter Tryz.func62,Tryz.ntmps62
  go_wp2_with fail
  have hb0:(World.drew ((w.alloc (.cells #[.int .i64 6,.int .i64 pid,.int .i64 ad,.int .i64 n,.int .i64 pr,.slice a dn dc] 39)).alloc (.cells #[.int .i64 6,.int .i64 0,.int .i64 0,.int .i64 0,.int .i64 0,.slice none 0 0] 39))).heap[w.heap.size]?=some (.cells #[.int .i64 6,.int .i64 pid,.int .i64 ad,.int .i64 n,.int .i64 pr,.slice a dn dc] 39 (0,0)):=al2_0 _ _ _
  have hr6:Row6 39 (w.heap.size+1) (World.drew ((w.alloc (.cells #[.int .i64 6,.int .i64 pid,.int .i64 ad,.int .i64 n,.int .i64 pr,.slice a dn dc] 39)).alloc (.cells #[.int .i64 6,.int .i64 0,.int .i64 0,.int .i64 0,.int .i64 0,.slice none 0 0] 39))):=⟨_,_,_,_,_,_,al2_1 _ _ _⟩
  have hri:RtI w #[.int .i64 6,.int .i64 pid,.int .i64 ad,.int .i64 n,.int .i64 pr,.slice a dn dc] (.int .i64 6) (.int .i64 0) 3 (.int .i64 0) (World.drew ((w.alloc (.cells #[.int .i64 6,.int .i64 pid,.int .i64 ad,.int .i64 n,.int .i64 pr,.slice a dn dc] 39)).alloc (.cells #[.int .i64 6,.int .i64 0,.int .i64 0,.int .i64 0,.int .i64 0,.slice none 0 0] 39))):=rti_start _ _ _ _ (by decide) rfl
  refine' reg_order [eqV _,eqV _,eqV _,eqV _,eqV _,eqV _,eqV _,(fun _ w5=>w5.cell? ⟨(w.heap.size+1),1,none⟩=some (.int .i64 pid)),eqV _,(fun _ w5=>w5.cell? ⟨(w.heap.size+1),2,none⟩=some (.int .i64 ad)),eqV _,(fun _ w5=>w5.cell? ⟨(w.heap.size+1),5,none⟩=some (.slice a dn dc))] [(7,fun w5 w6=>Wr (w.heap.size+1) 1 w5 w6),(9,fun w5 w6=>Wr (w.heap.size+1) 2 w5 w6),(11,fun w5 w6=>Wr (w.heap.size+1) 5 w5 w6)] [(1,fun w5=>w5.heap[w.heap.size]?=some (.cells #[.int .i64 6,.int .i64 pid,.int .i64 ad,.int .i64 n,.int .i64 pr,.slice a dn dc] 39 (0,0))),(3,fun w5=>w5.heap[w.heap.size]?=some (.cells #[.int .i64 6,.int .i64 pid,.int .i64 ad,.int .i64 n,.int .i64 pr,.slice a dn dc] 39 (0,0))),(5,fun w5=>w5.heap[w.heap.size]?=some (.cells #[.int .i64 6,.int .i64 pid,.int .i64 ad,.int .i64 n,.int .i64 pr,.slice a dn dc] 39 (0,0))),(7,fun w5=>Row6 39 (w.heap.size+1) w5),(9,fun w5=>Row6 39 (w.heap.size+1) w5),(11,fun w5=>Row6 39 (w.heap.size+1) w5),(12,fun w5=>RtI w #[.int .i64 6,.int .i64 pid,.int .i64 ad,.int .i64 n,.int .i64 pr,.slice a dn dc] (.int .i64 6) (.int .i64 0) 3 (.int .i64 0) w5)] [31,32,33,34,35,36,37,88,38,90,39,92] [[],[0],[],[2],[],[4],[],[1,6],[],[3,8],[],[5,10]] [0,1,2,3,4,5,6,7,8,9,10,11] 12 (by kernel_rfl) ⟨eS _,eS _,eS _,eS _,eS _,eS _,eS _,fun _ _ _ p b=>cel b p,eS _,fun _ _ _ p b=>cel b p,eS _,fun _ _ _ p b=>cel b p,trivial⟩ ⟨⟨.inl (eS _),.inl (eS _),.inl (eS _),.inl (eS _),.inl (eS _),.inl (eS _),.inl (eS _),.inr (.inr rfl),.inl (eS _),.inr (.inl (by kernel_rfl)),.inl (eS _),.inr (.inl (by kernel_rfl)),trivial⟩,⟨.inl (eS _),.inl (eS _),.inl (eS _),.inl (eS _),.inl (eS _),.inl (eS _),.inl (eS _),.inl (fun _ _ _ p g=>Wr.cell g p (by decide)),.inl (eS _),.inr (.inr rfl),.inl (eS _),.inr (.inl (by kernel_rfl)),trivial⟩,⟨.inl (eS _),.inl (eS _),.inl (eS _),.inl (eS _),.inl (eS _),.inl (eS _),.inl (eS _),.inl (fun _ _ _ p g=>Wr.cell g p (by decide)),.inl (eS _),.inl (fun _ _ _ p g=>Wr.cell g p (by decide)),.inl (eS _),.inr (.inr rfl),trivial⟩,trivial⟩ ⟨fun _ _ p b=>row_keep p b,fun _ _ p b=>row_keep p b,fun _ _ p b=>row_keep p b,fun _ _ p b=>Row6.keep p b,fun _ _ p b=>Row6.keep p b,fun _ _ p b=>Row6.keep p b,fun _ _ p b=>RtI.keep p b,trivial⟩ ⟨⟨.inr (.inl (by kernel_rfl)),.inl (fun _ _ p g=>Wr.other g p (by omega)),.inl (fun _ _ p g=>Wr.other g p (by omega)),.inr (.inr rfl),.inl (fun _ _ p g=>Wr.row6 g p (by decide)),.inl (fun _ _ p g=>Wr.row6 g p (by decide)),.inl (fun _ _ p g=>RtI.wr p g (by decide)),trivial⟩,⟨.inr (.inl (by kernel_rfl)),.inr (.inl (by kernel_rfl)),.inl (fun _ _ p g=>Wr.other g p (by omega)),.inr (.inl (by kernel_rfl)),.inr (.inr rfl),.inl (fun _ _ p g=>Wr.row6 g p (by decide)),.inl (fun _ _ p g=>RtI.wr p g (by decide)),trivial⟩,⟨.inr (.inl (by kernel_rfl)),.inr (.inl (by kernel_rfl)),.inr (.inl (by kernel_rfl)),.inr (.inl (by kernel_rfl)),.inr (.inl (by kernel_rfl)),.inr (.inr rfl),.inl (fun _ _ p g=>RtI.wr p g (by decide)),trivial⟩,trivial⟩ ⟨hb0,hb0,hb0,hr6,hr6,hr6,hri,trivial⟩ 81 rfl (by kernel_rfl) (by kernel_rfl) rfl rfl 12 rfl ?q9obl ?q9fin
  case q9obl=>
   refine ⟨?q9o0,?q9o1,?q9o2,?q9o3,?q9o4,?q9o5,?q9o6,?q9o7,?q9o8,?q9o9,?q9o10,?q9o11,trivial⟩
   case q9o0 | q9o2 | q9o4 | q9o6 | q9o8 | q9o10=>
    intro w1 hI;refine t2o (by rfl) ?_;intro K hK;go_simp;refine hK _ _ ⟨rfl,Kept.refl _,?_⟩;show _=_;simp only [gv1];rfl
   case q9o1=>
    intro w1 hI
    replace hI:(fun w5=>w5.heap[w.heap.size]?=some (.cells #[.int .i64 6,.int .i64 pid,.int .i64 ad,.int .i64 n,.int .i64 pr,.slice a dn dc] 39 (0,0))) w1:=hI
    intro v0 h0;change _=_ at h0;subst v0;refine t2o (by rfl) ?_;intro K hK;simp only [gv2]
    have hc:=cell_of_row w1 w.heap.size 1 _ _ _ hI
    go_simp;refine hK _ _ ⟨rfl,Kept.refl _,?_⟩;show _=_;simp only [gv1];rfl
   case q9o3=>
    intro w1 hI
    replace hI:(fun w5=>w5.heap[w.heap.size]?=some (.cells #[.int .i64 6,.int .i64 pid,.int .i64 ad,.int .i64 n,.int .i64 pr,.slice a dn dc] 39 (0,0))) w1:=hI
    intro v2 h2;change _=_ at h2;subst v2;refine t2o (by rfl) ?_;intro K hK;simp only [gv2]
    have hc:=cell_of_row w1 w.heap.size 2 _ _ _ hI
    go_simp;refine hK _ _ ⟨rfl,Kept.refl _,?_⟩;show _=_;simp only [gv1];rfl
   case q9o5=>
    intro w1 hI
    replace hI:(fun w5=>w5.heap[w.heap.size]?=some (.cells #[.int .i64 6,.int .i64 pid,.int .i64 ad,.int .i64 n,.int .i64 pr,.slice a dn dc] 39 (0,0))) w1:=hI
    intro v4 h4;change _=_ at h4;subst v4;refine t2o (by rfl) ?_;intro K hK;simp only [gv2]
    have hc:=cell_of_row w1 w.heap.size 5 _ _ _ hI
    go_simp;refine hK _ _ ⟨rfl,Kept.refl _,?_⟩;show _=_;simp only [gv1];rfl
   case q9o7=>
    intro w1 hI
    replace hI:(fun w5=>Row6 39 (w.heap.size+1) w5) w1:=hI
    intro v1 h1;change _=_ at h1;subst v1;intro v6 h6;change _=_ at h6;subst v6;refine t2o (by rfl) ?_;intro K hK;simp only [gv2]
    obtain ⟨e1,e2,y,e3⟩:=Row6.set hI (i:=1) (by decide) (.int .i64 pid)
    go_simp
    refine hK _ _ ⟨rfl,⟨_,rfl⟩,?_⟩
    exact e1
   case q9o9=>
    intro w1 hI
    replace hI:(fun w5=>Row6 39 (w.heap.size+1) w5) w1:=hI
    intro v3 h3;change _=_ at h3;subst v3;intro v8 h8;change _=_ at h8;subst v8;refine t2o (by rfl) ?_;intro K hK;simp only [gv2]
    obtain ⟨e1,e2,y,e3⟩:=Row6.set hI (i:=2) (by decide) (.int .i64 ad)
    go_simp
    refine hK _ _ ⟨rfl,⟨_,rfl⟩,?_⟩
    exact e1
   case q9o11=>
    intro w1 hI
    replace hI:(fun w5=>Row6 39 (w.heap.size+1) w5) w1:=hI
    intro v5 h5;change _=_ at h5;subst v5;intro v10 h10;change _=_ at h10;subst v10;refine t2o (by rfl) ?_;intro K hK;simp only [gv2]
    obtain ⟨e1,e2,y,e3⟩:=Row6.set hI (i:=5) (by decide) (.slice a dn dc)
    go_simp
    refine hK _ _ ⟨rfl,⟨_,rfl⟩,?_⟩
    exact e1
  intro w9 hI
  replace hI:(fun w5=>RtI w #[.int .i64 6,.int .i64 pid,.int .i64 ad,.int .i64 n,.int .i64 pr,.slice a dn dc] (.int .i64 6) (.int .i64 0) 3 (.int .i64 0) w5) w9:=hI
  intro v0 h0;change _=_ at h0;subst v0;intro v1 h1;change _=_ at h1;subst v1;intro v2 h2;change _=_ at h2;subst v2;intro v3 h3;change _=_ at h3;subst v3;intro v4 h4;change _=_ at h4;subst v4;intro v5 h5;change _=_ at h5;subst v5;intro v6 h6;change _=_ at h6;subst v6;intro v7 h7;change _=_ at h7;intro v8 h8;change _=_ at h8;subst v8;intro v9 h9;change _=_ at h9
  intro v10 h10;change _=_ at h10;subst v10;intro v11 h11;change _=_ at h11
  simp only [Given,gv2]
  have HB:=Lib.hid hI.bel
  obtain ⟨x0,x1,x2,x3,x4,x5⟩:=cells6 hI.row
  have q0:=hI.c0
  have q4:=hI.c4
  have q3:w9.cell? ⟨(w.heap.size+1),3,none⟩=some (.int .i64 0):=hI.cx
  clear hI hri hr6 hb0
  rename_i Q9 K9 hKK
  show K9 _ _
  refine hKK _ _ ?_
  go_wp2
  go_ret
  exact ⟨by first | rfl | (simp;omega),HB.out⟩
set_option maxHeartbeats 1000000 in
theorem right_7 (B:Bool) (hB:(decide (ad=0) && (decide (n=0) && (decide (pr=0) && decide (dn=0))))=B):Calls Tryz.prog 62 #[.agg #[.int .i64 7,.int .i64 pid,.int .i64 ad,.int .i64 n,.int .i64 pr,.slice a dn dc]] w fun e w'=>e = .returned (.bool B)∧Below w.heap.size w w':=by
 by_cases c0:ad=0
 ·subst c0
  by_cases c1:n=0
  ·subst c1
   by_cases c2:pr=0
   ·subst c2
    by_cases c3:dn=0
    ·subst c3
     obtain rfl:B=true:=by rw [← hB];simp
     clear hB
     go_enter Tryz.func62,Tryz.ntmps62
     go_wp2
     go_ret
     exact ⟨by first | rfl | (simp;omega),((Below.refl _ _).alloc (Nat.le_refl _) _).alloc (by simp) _⟩
    ·have f3:decide (dn=0)=false:=decide_eq_false c3
     have g3:decide ((0:Int)=(dn:Int))=false:=decide_eq_false (by omega)
     have k3:((0:Int) == (dn:Int))=false:=by simp;omega
     obtain rfl:B=false:=by rw [← hB];simp [c3]
     clear hB
     go_enter Tryz.func62,Tryz.ntmps62
     go_wp2
     go_ret
     exact ⟨by first | rfl | (simp;omega),((Below.refl _ _).alloc (Nat.le_refl _) _).alloc (by simp) _⟩
   ·have f2:decide (pr=0)=false:=decide_eq_false c2
    have g2:decide ((0:Int)=(pr:Int))=false:=decide_eq_false (by omega)
    have k2:((0:Int) == (pr:Int))=false:=by simp;omega
    obtain rfl:B=false:=by rw [← hB];simp [c2]
    clear hB
    go_enter Tryz.func62,Tryz.ntmps62
    go_wp2
    go_ret
    exact ⟨by first | rfl | (simp;omega),((Below.refl _ _).alloc (Nat.le_refl _) _).alloc (by simp) _⟩
  ·have f1:decide (n=0)=false:=decide_eq_false c1
   have g1:decide ((0:Int)=(n:Int))=false:=decide_eq_false (by omega)
   have k1:((0:Int) == (n:Int))=false:=by simp;omega
   obtain rfl:B=false:=by rw [← hB];simp [c1]
   clear hB
   go_enter Tryz.func62,Tryz.ntmps62
   go_wp2
   go_ret
   exact ⟨by first | rfl | (simp;omega),((Below.refl _ _).alloc (Nat.le_refl _) _).alloc (by simp) _⟩
 ·have f0:decide (ad=0)=false:=decide_eq_false c0
  have g0:decide ((0:Int)=(ad:Int))=false:=decide_eq_false (by omega)
  have k0:((0:Int) == (ad:Int))=false:=by simp;omega
  obtain rfl:B=false:=by rw [← hB];simp [c0]
  clear hB
  go_enter Tryz.func62,Tryz.ntmps62
  go_wp2
  go_ret
  exact ⟨by first | rfl | (simp;omega),((Below.refl _ _).alloc (Nat.le_refl _) _).alloc (by simp) _⟩
set_option maxHeartbeats 1000000 in
theorem right_8 (B:Bool) (hB:(decide (ad=0) && (decide (n=0) && (decide (pr=0) && decide (dn=0))))=B):Calls Tryz.prog 62 #[.agg #[.int .i64 8,.int .i64 pid,.int .i64 ad,.int .i64 n,.int .i64 pr,.slice a dn dc]] w fun e w'=>e = .returned (.bool B)∧Below w.heap.size w w':=by
 by_cases c0:ad=0
 ·subst c0
  by_cases c1:n=0
  ·subst c1
   by_cases c2:pr=0
   ·subst c2
    by_cases c3:dn=0
    ·subst c3
     obtain rfl:B=true:=by rw [← hB];simp
     clear hB
     go_enter Tryz.func62,Tryz.ntmps62
     go_wp2
     go_ret
     exact ⟨by first | rfl | (simp;omega),((Below.refl _ _).alloc (Nat.le_refl _) _).alloc (by simp) _⟩
    ·have f3:decide (dn=0)=false:=decide_eq_false c3
     have g3:decide ((0:Int)=(dn:Int))=false:=decide_eq_false (by omega)
     have k3:((0:Int) == (dn:Int))=false:=by simp;omega
     obtain rfl:B=false:=by rw [← hB];simp [c3]
     clear hB
     go_enter Tryz.func62,Tryz.ntmps62
     go_wp2
     go_ret
     exact ⟨by first | rfl | (simp;omega),((Below.refl _ _).alloc (Nat.le_refl _) _).alloc (by simp) _⟩
   ·have f2:decide (pr=0)=false:=decide_eq_false c2
    have g2:decide ((0:Int)=(pr:Int))=false:=decide_eq_false (by omega)
    have k2:((0:Int) == (pr:Int))=false:=by simp;omega
    obtain rfl:B=false:=by rw [← hB];simp [c2]
    clear hB
    go_enter Tryz.func62,Tryz.ntmps62
    go_wp2
    go_ret
    exact ⟨by first | rfl | (simp;omega),((Below.refl _ _).alloc (Nat.le_refl _) _).alloc (by simp) _⟩
  ·have f1:decide (n=0)=false:=decide_eq_false c1
   have g1:decide ((0:Int)=(n:Int))=false:=decide_eq_false (by omega)
   have k1:((0:Int) == (n:Int))=false:=by simp;omega
   obtain rfl:B=false:=by rw [← hB];simp [c1]
   clear hB
   go_enter Tryz.func62,Tryz.ntmps62
   go_wp2
   go_ret
   exact ⟨by first | rfl | (simp;omega),((Below.refl _ _).alloc (Nat.le_refl _) _).alloc (by simp) _⟩
 ·have f0:decide (ad=0)=false:=decide_eq_false c0
  have g0:decide ((0:Int)=(ad:Int))=false:=decide_eq_false (by omega)
  have k0:((0:Int) == (ad:Int))=false:=by simp;omega
  obtain rfl:B=false:=by rw [← hB];simp [c0]
  clear hB
  go_enter Tryz.func62,Tryz.ntmps62
  go_wp2
  go_ret
  exact ⟨by first | rfl | (simp;omega),((Below.refl _ _).alloc (Nat.le_refl _) _).alloc (by simp) _⟩
theorem right_no (kd:Int) (h:∀ k:Int,1≤k→k≤9→kd ≠ k):Calls Tryz.prog 62 #[.agg #[.int .i64 kd,.int .i64 pid,.int .i64 ad,.int .i64 n,.int .i64 pr,.slice a dn dc]] w fun e w'=>e = .returned (.bool false)∧Below w.heap.size w w':=by
 have z1:decide (kd=1)=false:=decide_eq_false (h 1 (by omega) (by omega))
 have y1:(kd == 1)=false:=by simpa using h 1 (by omega) (by omega)
 have z2:decide (kd=2)=false:=decide_eq_false (h 2 (by omega) (by omega))
 have y2:(kd == 2)=false:=by simpa using h 2 (by omega) (by omega)
 have z3:decide (kd=3)=false:=decide_eq_false (h 3 (by omega) (by omega))
 have y3:(kd == 3)=false:=by simpa using h 3 (by omega) (by omega)
 have z4:decide (kd=4)=false:=decide_eq_false (h 4 (by omega) (by omega))
 have y4:(kd == 4)=false:=by simpa using h 4 (by omega) (by omega)
 have z5:decide (kd=5)=false:=decide_eq_false (h 5 (by omega) (by omega))
 have y5:(kd == 5)=false:=by simpa using h 5 (by omega) (by omega)
 have z6:decide (kd=6)=false:=decide_eq_false (h 6 (by omega) (by omega))
 have y6:(kd == 6)=false:=by simpa using h 6 (by omega) (by omega)
 have z7:decide (kd=7)=false:=decide_eq_false (h 7 (by omega) (by omega))
 have y7:(kd == 7)=false:=by simpa using h 7 (by omega) (by omega)
 have z8:decide (kd=8)=false:=decide_eq_false (h 8 (by omega) (by omega))
 have y8:(kd == 8)=false:=by simpa using h 8 (by omega) (by omega)
 have z9:decide (kd=9)=false:=decide_eq_false (h 9 (by omega) (by omega))
 have y9:(kd == 9)=false:=by simpa using h 9 (by omega) (by omega)
 clear h
 go_enter Tryz.func62,Tryz.ntmps62
 go_wp2
 go_ret
 exact ⟨rfl,((Below.refl _ _).alloc (Nat.le_refl _) _).alloc (by simp) _⟩
theorem opright_any (o:Opn) (hd:o.data.length=dn):Calls Tryz.prog 62 #[.agg #[.int .i64 o.kind,.int .i64 o.pid,.int .i64 o.at_,.int .i64 o.n,.int .i64 o.prot,.slice a dn dc]] w fun e w'=>e = .returned (.bool (rightOp o))∧Below w.heap.size w w':=by
 subst hd
 obtain ⟨kd,pid,ad,n,pr,d⟩:=o
 unfold rightOp
 dsimp only
 by_cases h:∃ k:Int,(1≤k∧k≤9)∧kd=k
 ·obtain ⟨k,hk,rfl⟩:=h
  have:kd=1∨kd=2∨kd=3∨kd=4∨kd=5∨kd=6∨kd=7∨kd=8∨kd=9:=by omega
  rcases this with rfl | rfl | rfl | rfl | rfl | rfl | rfl | rfl | rfl
  ·exact right_1 pid ad n pr a _ dc w _ (by simp [Bool.decide_and])
  ·exact right_2 pid ad n pr a _ dc w _ (by simp)
  ·exact right_3 pid ad n pr a _ dc w _ (by simp [Bool.decide_and])
  ·exact right_4 pid ad n pr a _ dc w _ (by simp)
  ·exact right_5 pid ad n pr a _ dc w _ (by simp [Bool.decide_and])
  ·exact right_6 pid ad n pr a _ dc w _ (by simp [Bool.decide_and])
  ·exact right_7 pid ad n pr a _ dc w _ (by simp [Bool.decide_and])
  ·exact right_8 pid ad n pr a _ dc w _ (by simp [Bool.decide_and])
  ·exact right_9 pid ad n pr a _ dc w _ (by simp [Bool.decide_and])
 ·have hne:∀ k:Int,1≤k→k≤9→kd ≠ k:=fun k h1 h2 e=>h ⟨k,⟨h1,h2⟩,e⟩
  have z:(if kd=1∨kd=9 then decide (pid=0∧ad=0∧n=0∧pr=0∧d.length=0) else if kd=2∨kd=4 then decide (d.length=0) else if kd=3∨kd=5 then decide (pr=0∧d.length=0) else if kd=6 then decide (n=0∧pr=0) else if kd=7∨kd=8 then decide (ad=0∧n=0∧pr=0∧d.length=0) else false)=false:=by
   have h1:=hne 1;have h2:=hne 2;have h3:=hne 3;have h4:=hne 4;have h5:=hne 5;have h6:=hne 6;have h7:=hne 7;have h8:=hne 8;have h9:=hne 9
   rw [if_neg (by omega),if_neg (by omega),if_neg (by omega),if_neg (by omega),if_neg (by omega)]
  rw [z]
  exact right_no pid ad n pr a _ dc w kd hne
end
end Go.Proofs.YtoepnbfifjgpfaaGreat
