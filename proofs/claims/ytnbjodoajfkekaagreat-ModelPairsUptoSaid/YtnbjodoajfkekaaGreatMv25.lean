/- The chapter's example. The law's own helpers. Opening an api.Op by value. An argument that is a struct of nine ints, by value. No program in sight. -/
import Derived.Test.YtnbjodoajfkekaaGreatMv24
import Derived.Test.YtnbjodoajfkekaaGreatMv19
import Derived.WalkKit
import Derived.ProofKit
import Derived.BigQuiet
import Derived.Deep.QuietTactic
import Derived.Lib.Hide
import Derived.RegionTactic
import Derived.Test.YtnbjodoajfkekaaGreatMv13
import Derived.Test.YtnbjodoajfkekaaGreatMv14
import Derived.OpenShut
namespace Go.Proofs.YtnbjodoajfkekaaGreat
set_option maxRecDepth 100000
open Go.RowKit
set_option linter.unusedSimpArgs false
def kC:Cf:=⟨0,0,0,0,16,0,3,3,8⟩
def kL:List OpP:=[⟨1,0,0,0,0,[]⟩,⟨2,0,2,1,3,[]⟩,⟨6,0,33,0,0,[97,98]⟩,⟨7,0,0,0,0,[]⟩,⟨6,1,33,0,0,[120]⟩,⟨5,0,32,3,0,[]⟩,⟨5,1,32,3,0,[]⟩]
theorem k_3:(ansL (mc0 kC) kL 3).pid=1:=by kernel_rfl
theorem k_5:(ansL (mc0 kC) kL 5).data=[0,97,98]:=by kernel_rfl
theorem k_6:(ansL (mc0 kC) kL 6).data=[0,120,98]:=by kernel_rfl
theorem kC_ok:CfOk kC:=⟨by decide,by decide,by decide,by decide⟩
theorem k_row (w:World) (b:Nat) (l:List Int) {fr:Nat × Nat} (h:w.heap[b]?=some (.cells (l.map (Value.int .u8)).toArray 5 fr)) (hl:l.length≤100) (hw:∀ x ∈ l,(Lit.int .u8 x).wf=true):RdAt .u8 w (some ⟨b,0,none⟩) l.length l.length l:=by
 refine ⟨rfl,Nat.le_refl _,by unfold maxLen;omega,fun i hi=>⟨b,0,rfl,?_⟩,hw,fun e=>by cases e⟩
 rw [Nat.zero_add]
 have hx:(l.map (Value.int .u8)).toArray[i]?=some (.int .u8 (nth l i)):=by
  rw [List.getElem?_toArray,List.getElem?_map,List.getElem?_eq_getElem hi,nth_eq hi];rfl
 simp [World.cell?,h,hx]
def kRow (B:Nat):Array Value:=#[.int .i64 1,.int .i64 0,.int .i64 0,.int .i64 0,.int .i64 0,.slice none 0 0,.int .i64 2,.int .i64 0,.int .i64 2,.int .i64 1,.int .i64 3,.slice none 0 0,.int .i64 6,.int .i64 0,.int .i64 33,.int .i64 0,.int .i64 0,.slice (some ⟨B,0,none⟩) 2 2,.int .i64 7,.int .i64 0,.int .i64 0,.int .i64 0,.int .i64 0,.slice none 0 0,.int .i64 6,.int .i64 1,.int .i64 33,.int .i64 0,.int .i64 0,.slice (some ⟨B+1,0,none⟩) 1 1,.int .i64 5,.int .i64 0,.int .i64 32,.int .i64 3,.int .i64 0,.slice none 0 0,.int .i64 5,.int .i64 1,.int .i64 32,.int .i64 3,.int .i64 0,.slice none 0 0]
theorem k_ops (w:World) (B:Nat) (No:Nat→Prop) {f0 f1:Nat × Nat} (h0:w.heap[B]?=some (.cells #[.int .u8 97,.int .u8 98] 5 f0)) (h1:w.heap[B+1]?=some (.cells #[.int .u8 120] 5 f1)) (h2:w.heap[B+2]?=some (.cells (kRow B) 38 (0,0))) (hno:∀ k,No k→k < B):OpsIn w No (some ⟨B+2,0,none⟩) 7 kL:=by
 have hb:∀ k,B≤k→¬ No k:=fun k hk e=>by have:=hno k e;omega
 have nil:∀ x:Addr,(none:Option Addr)=some x→0 < 0→¬ No x.block:=fun x e=>by cases e
 have r1:=k_row w B [97,98] h0 (by decide) (by decide)
 have r2:=k_row w (B+1) [120] h1 (by decide) (by decide)
 have hc:∀ (i:Nat) (v:Value),(kRow B)[i]?=some v→w.cell? ⟨B+2,i,none⟩=some v:=fun i v hv=>by simp [World.cell?,h2,hv]
 refine ⟨rfl,fun i A hA=>⟨B+2,0,rfl,?_⟩⟩
 have hi:i < 7:=by have:=(List.getElem?_eq_some_iff.1 hA).1;exact this
 match i,hi with
 | 0,_=>
  injection hA with hA
  subst hA
  exact ⟨⟨none,0,0,⟨hc 0 _ rfl,hc 1 _ rfl,hc 2 _ rfl,hc 3 _ rfl,hc 4 _ rfl,hc 5 _ rfl,RdAt.nil _ _⟩,nil⟩,by decide,hb _ (by omega)⟩
 | 1,_=>
  injection hA with hA
  subst hA
  exact ⟨⟨none,0,0,⟨hc 6 _ rfl,hc 7 _ rfl,hc 8 _ rfl,hc 9 _ rfl,hc 10 _ rfl,hc 11 _ rfl,RdAt.nil _ _⟩,nil⟩,by decide,hb _ (by omega)⟩
 | 2,_=>
  injection hA with hA
  subst hA
  exact ⟨⟨some ⟨B,0,none⟩,2,2,⟨hc 12 _ rfl,hc 13 _ rfl,hc 14 _ rfl,hc 15 _ rfl,hc 16 _ rfl,hc 17 _ rfl,r1⟩,fun x hx _=>by injection hx with hx;subst hx;exact hb _ (Nat.le_refl B)⟩,by decide,hb _ (by omega)⟩
 | 3,_=>
  injection hA with hA
  subst hA
  exact ⟨⟨none,0,0,⟨hc 18 _ rfl,hc 19 _ rfl,hc 20 _ rfl,hc 21 _ rfl,hc 22 _ rfl,hc 23 _ rfl,RdAt.nil _ _⟩,nil⟩,by decide,hb _ (by omega)⟩
 | 4,_=>
  injection hA with hA
  subst hA
  exact ⟨⟨some ⟨B+1,0,none⟩,1,1,⟨hc 24 _ rfl,hc 25 _ rfl,hc 26 _ rfl,hc 27 _ rfl,hc 28 _ rfl,hc 29 _ rfl,r2⟩,fun x hx _=>by injection hx with hx;subst hx;exact hb _ (Nat.le_succ B)⟩,by decide,hb _ (by omega)⟩
 | 5,_=>
  injection hA with hA
  subst hA
  exact ⟨⟨none,0,0,⟨hc 30 _ rfl,hc 31 _ rfl,hc 32 _ rfl,hc 33 _ rfl,hc 34 _ rfl,hc 35 _ rfl,RdAt.nil _ _⟩,nil⟩,by decide,hb _ (by omega)⟩
 | 6,_=>
  injection hA with hA
  subst hA
  exact ⟨⟨none,0,0,⟨hc 36 _ rfl,hc 37 _ rfl,hc 38 _ rfl,hc 39 _ rfl,hc 40 _ rfl,hc 41 _ rfl,RdAt.nil _ _⟩,nil⟩,by decide,hb _ (by omega)⟩
section
variable (w:World)
set_option maxHeartbeats 4000000 in
theorem known18:Calls Tryz.prog 6 #[] w fun e w'=>e = .returned (.bool true)∧Below w.heap.size w w':=by
 have HN:=Lib.hid (newmc_yes kC w kC_ok)
 unfold Cf.val kC at HN
 go_enter Tryz.func6,Tryz.ntmps6
 go_wp2_with fail
 refine HN.out.mono ?_
 rintro e w2 ⟨hh,rfl,hm,hown,hhm,hb⟩
 have HM:Hid (McIn w2 hh.own hh (mc0 kC)):=hm
 have HO:=Lib.hid hown;have HB:=Lib.hid hb;clear hm hown hhm hb HN
 have kc1:=Lib.run_convert_bytes_const (P:=Tryz.prog) w2 36 5 #[.int .u8 97,.int .u8 98] 2 2 Tryz.underlying36 Tryz.underlying5
 have kc2:=Lib.run_convert_bytes_const (P:=Tryz.prog) (w2.alloc (.cells #[.int .u8 97,.int .u8 98] 5 (2,3))) 36 5 #[.int .u8 120] 1 1 Tryz.underlying36 Tryz.underlying5
 have hsz1:(w2.alloc (.cells #[.int .u8 97,.int .u8 98] 5 (2,3))).heap.size=w2.heap.size+1:=by simp
 rw [hsz1] at kc2
 replace kc1:(convert 36 36 (.slice (some ⟨w2.heap.size,0,none⟩) 2 2)).run Tryz.prog (w2.alloc (.cells #[.int .u8 97,.int .u8 98] 5)) = .ok (.slice (some ⟨w2.heap.size,0,none⟩) 2 2) (w2.alloc (.cells #[.int .u8 97,.int .u8 98] 5 (2,3))):=kc1
 replace kc2:(convert 36 36 (.slice (some ⟨w2.heap.size+1,0,none⟩) 1 1)).run Tryz.prog ((w2.alloc (.cells #[.int .u8 97,.int .u8 98] 5 (2,3))).alloc (.cells #[.int .u8 120] 5)) = .ok (.slice (some ⟨w2.heap.size+1,0,none⟩) 1 1) ((w2.alloc (.cells #[.int .u8 97,.int .u8 98] 5 (2,3))).alloc (.cells #[.int .u8 120] 5 (1,2))):=kc2
 clear hsz1;go_wp2_with fail
 have hb3:=below_a3 w2 (.cells #[.int .u8 97,.int .u8 98] 5 (2,3)) (.cells #[.int .u8 120] 5 (1,2)) (.cells (kRow w2.heap.size) 38)
 have g0:(((w2.alloc (.cells #[.int .u8 97,.int .u8 98] 5 (2,3))).alloc (.cells #[.int .u8 120] 5 (1,2))).alloc (.cells (kRow w2.heap.size) 38)).heap[w2.heap.size]?=some (.cells #[.int .u8 97,.int .u8 98] 5 (2,3)):=(heap_alloc_old _ _ (by simp;omega)).trans (al2_0 _ _ _)
 have g1:(((w2.alloc (.cells #[.int .u8 97,.int .u8 98] 5 (2,3))).alloc (.cells #[.int .u8 120] 5 (1,2))).alloc (.cells (kRow w2.heap.size) 38)).heap[w2.heap.size+1]?=some (.cells #[.int .u8 120] 5 (1,2)):=(heap_alloc_old _ _ (by simp)).trans (al2_1 _ _ _)
 have g2:(((w2.alloc (.cells #[.int .u8 97,.int .u8 98] 5 (2,3))).alloc (.cells #[.int .u8 120] 5 (1,2))).alloc (.cells (kRow w2.heap.size) 38)).heap[w2.heap.size+2]?=some (.cells (kRow w2.heap.size) 38 (0,0)):=new_3 w2 _ _ _ _
 have hops:=k_ops _ w2.heap.size hh.own g0 g1 g2 HM.out.lt
 have hrun:=run_any (HM.out.below hb3) (some ⟨w2.heap.size+2,0,none⟩) 7 7 kL hops (by omega)
 have HBB:=Lib.hid (Below.call HB.out hb3)
 refine Calls.mono hrun ?_
 rintro e w5 ⟨v,vs,rfl,hR⟩
 obtain ⟨va,vc,rfl⟩:=hR.own.shapeN 7 hR.len
 have hb5:Below w.heap.size w w5:=HBB.out.trans (hR.tn.below (fun k hk ho=>by have:=HO.out k ho;omega) HBB.out.size)
 have hlen:=hR.len
 obtain ⟨x3,h3⟩:∃ x,vs[3]?=some x:=⟨_,List.getElem?_eq_getElem (by omega)⟩
 obtain ⟨x5,h5⟩:∃ x,vs[5]?=some x:=⟨_,List.getElem?_eq_getElem (by omega)⟩
 obtain ⟨x6,h6⟩:∃ x,vs[6]?=some x:=⟨_,List.getElem?_eq_getElem (by omega)⟩
 have hrd:=hR.own.rd anC
 obtain ⟨b,o,rfl,hc3⟩:=hrd.cell 3 x3 h3
 obtain ⟨b5,o5,e5,hc5⟩:=hrd.cell 5 x5 h5
 obtain ⟨b6,o6,e6,hc6⟩:=hrd.cell 6 x6 h6
 injection e5 with e5
 injection e5 with e5 e5'
 injection e6 with e6
 injection e6 with e6 e6'
 subst e5 e5' e6 e6'
 have p3:x3.pid=1:=(hR.is 3 x3 h3).pid.trans k_3
 have c3:w5.cell? ⟨b,o+13,none⟩=some (.int .i64 1):=by
  rw [← p3]
  exact hc3 1 _ rfl
 have c5:w5.cell? ⟨b,o+22,none⟩=some (.slice x5.da x5.dn x5.dc):=hc5 2 _ rfl
 have c6:w5.cell? ⟨b,o+26,none⟩=some (.slice x6.da x6.dn x6.dc):=hc6 2 _ rfl
 have d5:=(hR.is 5 x5 h5).data
 have d6:=(hR.is 6 x6 h6).data
 rw [k_5] at d5;rw [k_6] at d6
 have s5:=conv_rd (P:=Tryz.prog) u8T s8 su d5
 have s6:=conv_rd (P:=Tryz.prog) u8T s8 su d6
 have t5:strOfNums [0,97,98]={ data:=#[0,97,98] }:=by kernel_rfl
 have t6:strOfNums [0,120,98]={ data:=#[0,120,98] }:=by kernel_rfl
 rw [t5] at s5;rw [t6] at s6;have HB5:=Lib.hid hb5;clear hR hrun hops g0 g1 g2 hb3 hb5 hrd hc3 hc5 hc6 h3 h5 h6 d5 d6 t5 t6 p3 kc1 kc2 hlen
 go_wp2
 go_ret
 exact ⟨by first | rfl | (simp;done) | (congr 1),HB5.out⟩
end
def smallB (c:Cf):Bool:=decide (c.page≤512) || decide (4096 < c.page)
theorem small_any (c:Cf) (w:World):Calls Tryz.prog 8 #[c.val] w fun e w'=>e = .returned (.bool (smallB c))∧Below w.heap.size w w':=by
 have hrow:=heap_alloc_new w (.cells #[.int .i64 c.a0,.int .i64 c.a1,.int .i64 c.a2,.int .i64 c.a3,.int .i64 c.page,.int .i64 c.a5,.int .i64 c.procs,.int .i64 c.regions,.int .i64 c.pages] 23)
 have HB:=Lib.hid (below_a w (.cells #[.int .i64 c.a0,.int .i64 c.a1,.int .i64 c.a2,.int .i64 c.a3,.int .i64 c.page,.int .i64 c.a5,.int .i64 c.procs,.int .i64 c.regions,.int .i64 c.pages] 23))
 obtain ⟨y0,y1,y2,y3,y4,y5,y6,y7,y8⟩:=cells9 hrow
 unfold Cf.val smallB
 clear hrow
 by_cases h1:c.page≤512
 ·have d1:decide (c.page≤512)=true:=decide_eq_true h1
  rw [d1]
  go_enter Tryz.func8,Tryz.ntmps8
  go_wp2
  go_ret
  exact ⟨rfl,HB.out⟩
 ·have d1:decide (c.page≤512)=false:=decide_eq_false h1
  rw [d1]
  obtain ⟨B,hB⟩:∃ B,decide (4096 < c.page)=B:=⟨_,rfl⟩
  rw [hB]
  go_enter Tryz.func8,Tryz.ntmps8
  go_wp2
  go_ret
  exact ⟨rfl,HB.out⟩
/-- Few operations. -/
def bigL (A:OpP):Bool:=decide (A.kind=5) && (decide (8192 < A.n) && decide (A.n≤1048576))
def fewB (L:List OpP):Bool:=!(L.any bigL) && (decide (L.length≤200) && decide (sumOp L≤16384))
theorem sumOp_append (L M:List OpP):sumOp (L ++ M)=sumOp L+sumOp M:=by
 induction L with
 | nil=>simp [sumOp]
 | cons A r ih=>rw [List.cons_append,sumOp,sumOp,ih];omega
theorem sumOp_take (L:List OpP) (k:Nat):sumOp (L.take k)≤sumOp L:=by
 conv=>rhs;rw [← List.take_append_drop k L,sumOp_append]
 omega
set_option maxHeartbeats 2000000 in
theorem few_any (a:Option Addr) (n c:Nat) (L:List OpP) (w:World) (h:OpsAt w a n L) (hn:n≤2000000) (hs:sumOp L≤2000000) :
  Calls Tryz.prog 7 #[.slice a n c] w fun e w'=>e = .returned (.bool (fewB L))∧w=w':=by
 have H:=Lib.hid h
 have hln:=h.len
 obtain ⟨FB,hFB⟩:∃ x,fewB L=x:=⟨_,rfl⟩
 rw [hFB];have HFB:=Lib.hid hFB;clear h hFB
 go_enter Tryz.func7,Tryz.ntmps7
 go_wp2
 go_loopw [3,4] (fun s i wr=>∃ k:Nat,k≤n∧i = .int .i64 k∧s = .int .i64 (sumOp (L.take k):Nat)∧Hid (w=wr)∧Hid ((L.take k).any bigL=false)) (fun _ i _=>n - (intOf i).toNat)
 case atStart=>exact ⟨0,by omega,rfl,by simp [sumOp],rfl,by show _=_;simp⟩
 case round=>
  obtain ⟨k,hk,rfl,rfl,HW,HA⟩:=hrel
  have hw:=HW.out
  subst hw
  by_cases hkn:k < n
  ·have dk:decide ((k:Int) < (n:Int))=true:=decide_eq_true (by omega)
   obtain ⟨A,hA⟩:∃ A,L[k]?=some A:=⟨_,List.getElem?_eq_getElem (by omega)⟩
   obtain ⟨b,o,rfl,hat⟩:=H.out.at_ k A hA
   obtain ⟨da,dn,dc,y0,y1,y2,y3,y4,y5,hrd⟩:=hat.ex
   have hdl:=hrd.len
   have htk:L.take (k+1)=L.take k ++ [A]:=by rw [List.take_add_one,hA];rfl
   have hsum:sumOp (L.take (k+1))=sumOp (L.take k)+dn:=by rw [htk,sumOp_append];simp [sumOp,hdl]
   have hle:=sumOp_take L (k+1)
   have hwr:IntKind.i64.wrap ((sumOp (L.take k):Int)+(dn:Int))=((sumOp (L.take (k+1)):Nat):Int):=by rw [IntKind.wrap_i64];omega
   have hk1:(k:Int) < (n:Int):=by omega
   have hk2:(0:Int)≤(k:Int):=by omega
   have HTK:=Lib.hid htk
   obtain ⟨S1,hS1⟩:∃ x,sumOp (L.take (k+1))=x:=⟨_,rfl⟩
   rw [hS1] at hwr;have HS1:=Lib.hid hS1
   by_cases q1:A.kind=5
   ·have d1:decide (A.kind=5)=true:=decide_eq_true q1
    have b1:(A.kind == 5)=true:=by simpa using q1
    rw [q1] at y0
    by_cases q2:8192 < A.n
    ·have d2:decide (8192 < A.n)=true:=decide_eq_true q2
     by_cases q3:A.n≤1048576
     ·have d3:decide (A.n≤1048576)=true:=decide_eq_true q3
      have hfb:FB=false:=by
       rw [← HFB.out]
       unfold fewB
       have:L.any bigL=true:=List.any_eq_true.2 ⟨A,List.mem_of_getElem? hA,by unfold bigL;rw [d1,d2,d3];rfl⟩
       rw [this];rfl
      subst hfb;clear hat hrd hdl htk hsum hle hS1 hA
      go_wp2
      go_ret
      exact ⟨rfl,rfl⟩
     ·have d3:decide (A.n≤1048576)=false:=decide_eq_false q3
      have HA2:Hid ((L.take (k+1)).any bigL=false):=by show _=_;rw [htk,List.any_append,HA.out];simp [bigL,d3]
      clear hat hrd hdl htk hsum hle hS1 hA
      go_wp2
      go_roundw
      case rel=>exact ⟨k+1,by omega,by go_num,by rw [HS1.out],by first | exact Lib.hid rfl | exact Lib.hid trivial,HA2⟩
      case measure=>simp [intOf] <;> omega
    ·have d2:decide (8192 < A.n)=false:=decide_eq_false q2
     have HA2:Hid ((L.take (k+1)).any bigL=false):=by show _=_;rw [htk,List.any_append,HA.out];simp [bigL,d2]
     clear hat hrd hdl htk hsum hle hS1 hA
     go_wp2
     go_roundw
     case rel=>exact ⟨k+1,by omega,by go_num,by rw [HS1.out],by first | exact Lib.hid rfl | exact Lib.hid trivial,HA2⟩
     case measure=>simp [intOf] <;> omega
   ·have d1:decide (A.kind=5)=false:=decide_eq_false q1
    have b1:(A.kind == 5)=false:=by simpa using q1
    have HA2:Hid ((L.take (k+1)).any bigL=false):=by show _=_;rw [htk,List.any_append,HA.out];simp [bigL,d1]
    clear hat hrd hdl htk hsum hle hS1 hA
    go_wp2
    go_roundw
    case rel=>exact ⟨k+1,by omega,by go_num,by rw [HS1.out],by first | exact Lib.hid rfl | exact Lib.hid trivial,HA2⟩
    case measure=>simp [intOf] <;> omega
  ·obtain rfl:k=n:=by omega
   have dk:decide ((k:Int) < (k:Int))=false:=decide_eq_false (by omega)
   have hall:L.take k=L:=List.take_of_length_le (by omega)
   have hF:FB=(decide ((k:Int)≤200) && decide ((sumOp L:Int)≤16384)):=by
    have h1:=HA.out
    rw [hall] at h1;rw [← HFB.out]
    unfold fewB
    rw [h1,hln]
    have e1:decide (k≤200)=decide ((k:Int)≤200):=by congr 1;simp;omega
    have e2:decide (sumOp L≤16384)=decide ((sumOp L:Int)≤16384):=by congr 1;simp;omega
    rw [e1,e2];rfl
   rw [hall]
   by_cases q1:(k:Int)≤200
   ·have d1:decide ((k:Int)≤200)=true:=decide_eq_true q1
    rw [d1] at hF
    have hF2:decide ((sumOp L:Int)≤16384)=FB:=by rw [hF];rfl
    clear hF
    go_wp2
    go_ret
    exact ⟨rfl,rfl⟩
   ·have d1:decide ((k:Int)≤200)=false:=decide_eq_false q1
    rw [d1] at hF
    have hF2:FB=false:=hF
    clear hF;subst hF2;clear hall hln hk dk HFB HA
    go_wp2
    go_ret
    exact ⟨rfl,rfl⟩
open Go.ChangeShapes Go.WideShapes Go.ChangeAt Go.RowKit
def nineInts (P:Program) (e:TypeId) (fs:Array Field):Bool:=fs.size == 9 && (List.range 9).all fun i=>match fs[i]? with | some f=>f.offset == i && f.type == e && P.cellsOf f.type == 1 | none=>false
theorem list_nine {α:Type} {l:List α} (h:l.length=9):∃ c0 c1 c2 c3 c4 c5 c6 c7 c8,l=[c0,c1,c2,c3,c4,c5,c6,c7,c8]:=by
 match l,h with
 | [c0,c1,c2,c3,c4,c5,c6,c7,c8],_=>exact ⟨_,_,_,_,_,_,_,_,_,rfl⟩
theorem open_nine {H:Type} {enc:TypeId × Value→H} {P:Program} {w:World} {base:Nat} {spare:Nat→Bool} {held:Bool} {r:Reach} {b0:Nat} {t e:TypeId} {fs:Array Field} {v:Value} {d:DataW H} {p:List MemPlace}
  (hs:P.underlying t=some (.struct fs)) (hone:nineInts P e fs=true) (hC:P.cellsOf t=9) (he:P.underlying e=some (.int .i64)) (hv:Value.okWide P w r b0 t v) (h:DataW.Trod enc P w base spare held t v d p) :
  ∃ a0 a1 a2 a3 a4 a5 a6 a7 a8:Int,v = .agg #[.int .i64 a0,.int .i64 a1,.int .i64 a2,.int .i64 a3,.int .i64 a4,.int .i64 a5,.int .i64 a6,.int .i64 a7,.int .i64 a8]:=by
 obtain ⟨cs,rfl,hsz⟩:=okWide_struct hs hv
 obtain ⟨l⟩:=cs
 obtain ⟨c0,c1,c2,c3,c4,c5,c6,c7,c8,rfl⟩:=list_nine (hsz.trans hC)
 obtain ⟨fuel,hf⟩:=h
 obtain ⟨xs,n,_,_,_,hlen,hg⟩:=DataW.trod_struct hs hf
 unfold nineInts at hone
 rw [Bool.and_eq_true] at hone
 have h9:fs.size=9:=by simpa using hone.1
 have hall:=List.all_eq_true.1 hone.2
 have key:∀ (i:Nat) (c:Value),i < 9→[c0,c1,c2,c3,c4,c5,c6,c7,c8][i]?=some c→∃ a:Int,c = .int .i64 a:=by
  intro i c hi hc
  have hx:=hall i (by simpa using hi)
  obtain ⟨f,hfi⟩:∃ f,fs[i]?=some f:=⟨_,Array.getElem?_eq_getElem (by omega)⟩
  rw [hfi] at hx
  simp only [Bool.and_eq_true,beq_iff_eq] at hx
  obtain ⟨⟨o,te⟩,k1⟩:=hx
  have h1:=hg i f hfi
  rw [o,k1] at h1
  have hl:(([c0,c1,c2,c3,c4,c5,c6,c7,c8]:List Value).drop i).take 1=[c]:=by
   obtain ⟨hil,hie⟩:=List.getElem?_eq_some_iff.1 hc
   rw [List.drop_eq_getElem_cons hil,hie];rfl
  rw [te] at h1
  replace h1:DataW.trod enc P w base spare held n e ((([c0,c1,c2,c3,c4,c5,c6,c7,c8]:List Value).drop i).take 1)=xs[i]?:=h1
  rw [hl] at h1
  have hxi:xs[i]?=some (xs[i]'(by omega)):=List.getElem?_eq_getElem (by omega)
  rw [hxi] at h1
  obtain ⟨a,hca,_,_⟩:=DataW.trod_int he h1
  exact ⟨a,by simpa using hca⟩
 obtain ⟨x0,rfl⟩:=key 0 c0 (by omega) rfl
 obtain ⟨x1,rfl⟩:=key 1 c1 (by omega) rfl
 obtain ⟨x2,rfl⟩:=key 2 c2 (by omega) rfl
 obtain ⟨x3,rfl⟩:=key 3 c3 (by omega) rfl
 obtain ⟨x4,rfl⟩:=key 4 c4 (by omega) rfl
 obtain ⟨x5,rfl⟩:=key 5 c5 (by omega) rfl
 obtain ⟨x6,rfl⟩:=key 6 c6 (by omega) rfl
 obtain ⟨x7,rfl⟩:=key 7 c7 (by omega) rfl
 obtain ⟨x8,rfl⟩:=key 8 c8 (by omega) rfl
 exact ⟨_,_,_,_,_,_,_,_,_,rfl⟩
end Go.Proofs.YtnbjodoajfkekaaGreat
