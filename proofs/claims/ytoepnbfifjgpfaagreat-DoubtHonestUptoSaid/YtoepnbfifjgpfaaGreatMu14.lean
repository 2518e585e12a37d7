/- The contracts of procs: New, Has, Bits, Take, Free, List, Len. The reference's set of numbers: contracts of New, Has, Take, Free, List, Bits. The reference's set of numbers: contracts of Bits and Of; procs.Of. procs.Of and the reference's: contracts. What ProcsPlays hands to Each, Each itself, and rows of numbers compared. The walk of almanaclaw17.ProcsLeast. Take and Free, whatever there is: contracts of the program's and the reference's. -/
import Derived.Test.YtoepnbfifjgpfaaGreatProg
import Derived.Test.YtoepnbfifjgpfaaGreatMu13
import Derived.Test.YtoepnbfifjgpfaaGreatMu1
import Derived.RegionTactic
import Derived.ChangeAlike
import Derived.ProofKit
import Derived.OwnWalk
import Derived.Laws.OwnMore
import Derived.Deep.QuietTactic
import Derived.BigQuiet
import Derived.Test.YtoepnbfifjgpfaaGreatMu3
namespace Go.Proofs.YtoepnbfifjgpfaaGreat
set_option maxRecDepth 100000
open Go.RowKit
/-- A set of numbers lies in block g. -/
def SetAt (w:World) (g:Nat) (n:Int) (v:BitVec 64):Prop:=w.heap[g]?=some (.cells #[.int .i64 n,.int .u64 (qnum v)] 149 (0,0))
theorem SetAt.lt {w:World} {g:Nat} {n:Int} {v:BitVec 64} (h:SetAt w g n v):g < w.heap.size:=(Array.getElem?_eq_some_iff.1 h).1
theorem SetAt.cells {w:World} {g:Nat} {n:Int} {v:BitVec 64} (h:SetAt w g n v):w.cell? ⟨g,0,none⟩=some (.int .i64 n)∧w.cell? ⟨g,1,none⟩=some (.int .u64 (qnum v))∧w.frozen? ⟨g,1,none⟩=false:=by
 unfold SetAt at h
 exact ⟨by simp [World.cell?,h],by simp [World.cell?,h],frozen_of_row w g 1 _ _ h⟩
theorem SetAt.below {w w':World} {g:Nat} {n:Int} {v:BitVec 64} (h:SetAt w g n v) (hb:Below w.heap.size w w'):SetAt w' g n v:=by
 unfold SetAt at *
 rw [hb.block g (Array.getElem?_eq_some_iff.1 h).1];exact h
/-- A set's bits are put anew. -/
theorem SetAt.put {w:World} {g:Nat} {n:Int} {v:BitVec 64} (h:SetAt w g n v) (x:Int) (v':BitVec 64) (e:x=qnum v'):SetAt (w.setCell ⟨g,1,none⟩ (.int .u64 x)).drew g n v':=by
 subst e
 exact heap_setCell_same _ _ _ _ _ _ h
theorem put_grown (w:World) (g:Nat) (x:Value):w.grownBy (w.setCell ⟨g,1,none⟩ x).drew (some g):=
 ⟨rfl,rfl,rfl,by simp [World.drew],fun k _ hk=>heap_setCell_other w ⟨g,1,none⟩ k x (fun e=>hk (by simp [e]))⟩
theorem newset_no (n:Int) (w:World) (h:n < 1∨64 < n):Calls Tryz.prog 48 #[.int .i64 n] w fun e w'=>e = .returned (.tuple #[.pointer none,.int .i64 1])∧w=w':=by
 rcases h with h | h
 ·go_enter Tryz.func48,Tryz.ntmps48
  go_wp2
  go_ret2
  exact ⟨rfl,rfl⟩
 ·have h':¬ n < 1:=by omega
  go_enter Tryz.func48,Tryz.ntmps48
  go_wp2
  go_ret2
  exact ⟨rfl,rfl⟩
theorem newset_yes (n:Int) (w:World) (h1:1≤n) (h2:n≤64):Calls Tryz.prog 48 #[.int .i64 n] w fun e w'=>e = .returned (.tuple #[.pointer (some ⟨w.heap.size,0,none⟩),.int .i64 0])∧SetAt w' w.heap.size n 0#64∧Below w.heap.size w w':=by
 go_enter Tryz.func48,Tryz.ntmps48
 go_wp2
 go_ret2
 exact ⟨rfl,heap_alloc_new _ _,(Below.refl _ _).alloc (Nat.le_refl _) _⟩
theorem has_any (g:Nat) (n:Int) (v:BitVec 64) (p:Int) (w:World) (h:SetAt w g n v) (hn:n≤64):Calls Tryz.prog 63 #[.pointer (some ⟨g,0,none⟩),.int .i64 p] w fun e w'=>e = .returned (.bool (hasB n v p))∧w=w':=by
 obtain ⟨c0,c1,_⟩:=h.cells
 clear h
 by_cases h1:0≤p
 ·obtain ⟨q,rfl⟩:=Int.eq_ofNat_of_zero_le h1
  by_cases h2:(q:Int) < n
  ·have ht:=q_test v q
   by_cases hb:v.getLsbD q=true
   ·have he:hasB n v q=true:=by unfold hasB;rw [decide_eq_true h1,decide_eq_true h2,Int.toNat_natCast,hb];rfl
    rw [he,if_pos hb] at *
    clear hb he
    go_enter Tryz.func63,Tryz.ntmps63
    go_wp2
    go_ret
    exact ⟨rfl,rfl⟩
   ·have he:hasB n v q=false:=by unfold hasB;rw [Int.toNat_natCast];rw [Bool.not_eq_true] at hb;rw [hb];simp
    rw [he];rw [if_neg hb] at ht;clear hb he
    go_enter Tryz.func63,Tryz.ntmps63
    go_wp2
    go_ret
    exact ⟨rfl,rfl⟩
  ·have he:hasB n v q=false:=by unfold hasB;rw [decide_eq_false h2];simp
   rw [he];clear he
   go_enter Tryz.func63,Tryz.ntmps63
   go_wp2
   go_ret
   exact ⟨rfl,rfl⟩
 ·have he:hasB n v p=false:=by unfold hasB;rw [decide_eq_false h1];rfl
  rw [he];clear he
  go_enter Tryz.func63,Tryz.ntmps63
  go_wp2
  go_ret
  exact ⟨rfl,rfl⟩
theorem hasB_nat {n k:Nat} {v:BitVec 64} (h:k < n):hasB n v k=v.getLsbD k:=by
 unfold hasB
 rw [decide_eq_true (by omega:(0:Int)≤k),decide_eq_true (by omega:(k:Int) < n),Int.toNat_natCast];rfl
theorem take_yes (g n k0:Nat) (v:BitVec 64) (w:World) (h:SetAt w g n v) (hn:n≤64) (hf:firstF v n=k0) (hk0:k0 < n) :
  Calls Tryz.prog 67 #[.pointer (some ⟨g,0,none⟩)] w fun e w'=>e = .returned (.tuple #[.int .i64 k0,.int .i64 0])∧SetAt w' g n (v ||| qbit k0)∧w.grownBy w' (some g):=by
 obtain ⟨c0,c1,cf⟩:=h.cells
 have HS:=Lib.hid h;have HF:=Lib.hid hf;clear h hf
 go_enter Tryz.func67,Tryz.ntmps67
 go_wp2
 go_loop [9] (fun i=>∃ k:Nat,k≤k0∧i = .int .i64 k) (fun i=>n - (intOf i).toNat)
 case atStart=>exact ⟨0,by omega,rfl⟩
 case round=>
  obtain ⟨k,hk,rfl⟩:=hrel
  by_cases hp:k < k0
  ·have hb:hasB n v k=true:=by rw [hasB_nat (by omega)];exact firstF_below v n k (by rw [HF.out];exact hp)
   go_wp2_with (go_at_call 63;refine (has_any _ _ _ _ _ HS.out (by omega)).mono ?_;rintro e w' ⟨rfl,rfl⟩)
   go_round
   case rel=>exact ⟨k+1,by omega,by go_num⟩
   case measure=>simp [intOf] <;> omega
  ·have HE:Hid (k=k0):=by show _=_;omega
   have hkn:k < n:=by omega
   have hb:hasB n v k=false:=by rw [hasB_nat hkn];have:=firstF_at v n (by rw [HF.out];exact hk0);rw [HF.out] at this;rw [HE.out];exact this
   have HQ:=Lib.hid (q_put' v k (by omega))
   go_wp2_with (go_at_call 63;refine (has_any _ _ _ _ _ HS.out (by omega)).mono ?_;rintro e w' ⟨rfl,rfl⟩)
   go_region
   go_wp2
   go_ret2
   refine ⟨by rw [← HE.out];rfl,?_,put_grown _ _ _⟩
   rw [← HE.out]
   exact HS.out.put _ _ HQ.out
theorem free_yes (g:Nat) (n:Int) (v:BitVec 64) (p:Nat) (w:World) (h:SetAt w g n v) (hn:n≤64) (hb:hasB n v p=true) :
  Calls Tryz.prog 74 #[.pointer (some ⟨g,0,none⟩),.int .i64 p] w fun e w'=>e = .returned (.int .i64 0)∧SetAt w' g n (v &&& ~~~ qbit p)∧w.grownBy w' (some g):=by
 obtain ⟨c0,c1,cf⟩:=h.cells
 have hp:(p:Int) < n:=by
  unfold hasB at hb
  simp only [Bool.and_eq_true,decide_eq_true_eq] at hb
  exact hb.2.1
 have HS:=Lib.hid h
 have HQ:=Lib.hid (q_drop' v p (by omega))
 clear h
 go_enter Tryz.func74,Tryz.ntmps74
 go_wp2_with (go_at_call 63;refine (has_any _ _ _ _ _ HS.out hn).mono ?_;rintro e w' ⟨rfl,rfl⟩)
 go_region
 go_wp2
 go_ret
 exact ⟨rfl,HS.out.put _ _ HQ.out,put_grown _ _ _⟩
theorem i64I:elemInfo Tryz.prog 3 .i64 8:=by unfold elemInfo;kernel_rfl
theorem i64T:Tryz.prog.underlying 40=some (.slice 3):=Tryz.underlying40
/-- A variable in block h that holds a row of the call's own. -/
structure OutAt (w:World) (h:Nat) (v:Value) (l:List Int):Prop where
 row:w.heap[h]?=some (.cells #[v] 40 (0,0))
 own:Owns .i64 3 w (h+1) v l
theorem list1_any (h:Nat) (v:Value) (l:List Int) (p:Int) (w:World) (ho:OutAt w h v l) (hl:l.length≤1000000) (hp:(Lit.int .i64 p).wf=true) :
  Calls Tryz.prog 85 #[.int .i64 p,.pointer (some ⟨h,0,none⟩)] w fun e w'=>e = .returned (.bool true)∧(∃ v',OutAt w' h v' (l ++ [p]))∧Below h w w':=by
 have hr:=ho.row
 have hlt:h < w.heap.size:=(Array.getElem?_eq_some_iff.1 hr).1
 obtain ⟨a,c,hv⟩:=ho.own.shape
 have how:=ho.own
 subst hv
 have c0:w.cell? ⟨h,0,none⟩=some (.slice a l.length c):=by rw [cell_of_row w _ _ _ _ _ hr];rfl
 have cf:w.frozen? ⟨h,0,none⟩=false:=frozen_of_row w _ _ _ _ hr
 have HR:=Lib.hid hr;clear hr ho
 go_enter Tryz.func85,Tryz.ntmps85
 have hne:∀ g,room (.slice a l.length c)=some g→some g ≠ some h:=fun g hg e=>by
  injection e with e
  have:=(how.at_base g hg).1
  omega
 have HN:=Lib.hid hne;clear hne
 go_wp2_with (at_builtin;refine app_one i64T i64I (by decide) rfl (.tmp 4) (.tmp 6) rfl _ (h+1) _ l rfl how _ rfl hp (by omega) (by omega) ?_;intro v2 w2 ho2 hg2;obtain ⟨a2,k2,rfl⟩:=ho2.shapeN (l.length+1) (by simp);have hr2:=(hg2.1.block h hlt (fun e=>HN.out h e.symm rfl)).trans HR.out;have c2:w2.cell? ⟨h,0,none⟩=some (.slice a l.length c):=(by (rw [cell_of_row w2 _ _ _ _ _ hr2];rfl));have cf2:w2.frozen? ⟨h,0,none⟩=false:=frozen_of_row w2 _ _ _ _ hr2;have HR2:=Lib.hid hr2;clear hr2)
 go_ret
 have hB:Below h w w2:=hg2.below (by omega) (fun g hg=>by have:=(how.at_base g hg).1;omega)
 refine ⟨rfl,⟨_,heap_setCell_same _ _ _ _ _ _ HR2.out,ho2.grown (row:=some h) ⟨rfl,rfl,rfl,by simp,fun k _ hk=>heap_setCell_other w2 ⟨h,0,none⟩ k _ (fun e=>hk (by simp [e]))⟩ (fun g hg e=>?_)⟩,hB.setCell (Nat.le_refl _) _⟩
 injection e with e
 have:=(ho2.at_base g hg).1
 omega
theorem each_list (g n h:Nat) (v:BitVec 64) (w:World) (hs:SetAt w g n v) (hn:n≤64) (hgh:g < h) (ho:∃ x,OutAt w h x []) :
  Calls Tryz.prog 84 #[.pointer (some ⟨g,0,none⟩),.func (.func 85) #[] #[.pointer (some ⟨h,0,none⟩)]] w fun e w'=>e = .returned (.tuple #[])∧(∃ x,OutAt w' h x (pidsK v n))∧Below h w w':=by
 obtain ⟨c0,c1,cf⟩:=hs.cells
 have HS:=Lib.hid hs;have HO:=Lib.hid ho;clear hs ho
 go_enter Tryz.func84,Tryz.ntmps84
 go_wp2_with fail
 go_loopw [9] (fun i wr=>∃ k:Nat,k≤n∧i = .int .i64 k∧SetAt wr g n v∧(∃ x,OutAt wr h x (pidsK v k))∧Below h w wr) (fun i _=>n - (intOf i).toNat)
 case atStart=>exact ⟨0,by omega,rfl,HS.out,HO.out,Below.refl _ _⟩
 case round=>
  obtain ⟨k,hk,rfl,hs,ho,hb⟩:=hrel
  clear c0 c1 cf
  obtain ⟨c0,c1,cf⟩:=hs.cells
  have HS1:=Lib.hid hs
  have hgl:=hs.lt
  clear hs
  obtain ⟨x,ho⟩:=ho
  have hsz:=pidsK_le v k
  have HO1:=Lib.hid ho;clear ho
  by_cases hp:k < n
  ·by_cases hb1:v.getLsbD k=true
   ·have hbk:hasB n v k=true:=by rw [hasB_nat hp];exact hb1
    have HX:Hid (pidsK v (k+1)=pidsK v k ++ [(k:Int)]):=by show _=_;rw [pidsK,if_pos hb1]
    clear hb1
    go_wp2_with (first | (go_at_call 63;refine (has_any _ _ _ _ _ HS1.out (by omega)).mono ?_;rintro e w' ⟨rfl,rfl⟩) | (go_at_call 85;refine (list1_any _ _ _ _ _ HO1.out (by omega) (WalkArith.wf_i64 (by omega))).mono ?_;rintro e w2 ⟨rfl,ho2,hb2⟩))
    go_roundw
    case rel=>exact ⟨k+1,by omega,by go_num,by unfold SetAt;rw [hb2.block g hgh];exact HS1.out,by rw [HX.out];exact ho2,hb.trans hb2⟩
    case measure=>simp [intOf] <;> omega
   ·have hbk:hasB n v k=false:=by rw [hasB_nat hp];simpa using hb1
    have HX:Hid (pidsK v (k+1)=pidsK v k):=by show _=_;rw [pidsK,if_neg hb1]
    clear hb1
    go_wp2_with (first | (go_at_call 63;refine (has_any _ _ _ _ _ HS1.out (by omega)).mono ?_;rintro e w' ⟨rfl,rfl⟩))
    go_roundw
    case rel=>exact ⟨k+1,by omega,by go_num,HS1.out,by rw [HX.out];exact ⟨_,HO1.out⟩,hb⟩
    case measure=>simp [intOf] <;> omega
  ·obtain rfl:k=n:=by omega
   go_wp2_with fail
   go_end0
   exact ⟨rfl,⟨_,HO1.out⟩,hb⟩
/-- Ends with a row of numbers of its own. -/
def GivesPids (l:List Int) (w:World) (e:Ending) (w':World):Prop:=∃ v,e = .returned v∧Owns .i64 3 w' w.heap.size v l∧Below w.heap.size w w'
theorem list_any (g n:Nat) (v:BitVec 64) (w:World) (hs:SetAt w g n v) (hn:n≤64) :
  Calls Tryz.prog 47 #[.pointer (some ⟨g,0,none⟩)] w (GivesPids (pidsK v n) w):=by
 have hlt:=hs.lt
 have hs1:SetAt (w.alloc (.cells #[.slice none 0 0] 40)) g n v:=hs.below ((Below.refl _ _).alloc (Nat.le_refl _) _)
 have ho:OutAt (w.alloc (.cells #[.slice none 0 0] 40)) w.heap.size (.slice none 0 0) []:=⟨heap_alloc_new _ _,Owns.nil _ _ _ _⟩
 clear hs
 go_enter Tryz.func47,Tryz.ntmps47
 go_wp2_with fail
 refine (each_list _ _ _ _ _ hs1 hn hlt ⟨_,ho⟩).mono ?_
 rintro e w2 ⟨rfl,⟨x,ho2⟩,hb⟩
 have hr2:=ho2.row
 have how:=ho2.own
 obtain ⟨a,c,hx⟩:=how.shape
 subst hx
 have c2:w2.cell? ⟨w.heap.size,0,none⟩=some (.slice a (pidsK v n).length c):=by rw [cell_of_row w2 _ _ _ _ _ hr2];rfl
 clear hr2 ho2 ho;go_wp2_with fail
 go_ret
 exact ⟨_,rfl,how.mono (by omega),((Below.refl w.heap.size w).alloc (Nat.le_refl _) _).trans hb⟩
theorem len_any (g n:Nat) (v:BitVec 64) (w:World) (hs:SetAt w g n v) (hn:n≤64) :
  Calls Tryz.prog 61 #[.pointer (some ⟨g,0,none⟩)] w fun e w'=>e = .returned (.int .i64 ((pidsK v n).length:Nat))∧Below w.heap.size w w':=by
 go_enter Tryz.func61,Tryz.ntmps61
 go_wp2_with fail
 refine (list_any _ _ _ _ hs hn).mono ?_
 rintro e w2 ⟨v2,rfl,ho2,hb⟩
 obtain ⟨a,c,rfl⟩:=ho2.shape
 clear ho2;go_wp2_with fail
 go_ret
 exact ⟨rfl,hb⟩
def bvals (v:BitVec 64) (n:Nat):List Value:=(List.range n).map fun i=>.bool (v.getLsbD i)
theorem bvals_len (v:BitVec 64) (n:Nat):(bvals v n).length=n:=by simp [bvals]
theorem bvals_at (v:BitVec 64) {n i:Nat} (h:i < n):(bvals v n)[i]?=some (.bool (v.getLsbD i)):=by simp [bvals,h]
theorem bvals_out (v:BitVec 64) {n i:Nat} (h:n≤i):(bvals v n)[i]?=none:=by simp [bvals,h]
theorem bvals_set (v v':BitVec 64) {n k:Nat} (b:Bool) (hk:k < n) (h:∀ i,i < n→v'.getLsbD i=if k=i then b else v.getLsbD i):(bvals v n).set k (.bool b)=bvals v' n:=by
 apply List.ext_getElem?
 intro i;rw [List.getElem?_set,bvals_len]
 by_cases hi:i < n
 ·rw [bvals_at v' hi,bvals_at v hi,h i hi]
  by_cases e:k=i
  ·rw [if_pos e,if_pos hk,if_pos e]
  ·rw [if_neg e,if_neg e]
 ·rw [bvals_out v' (by omega),bvals_out v (by omega)]
  by_cases e:k=i
  ·omega
  ·rw [if_neg e]
theorem bvals_put (v:BitVec 64) {n k:Nat} (hn:n≤64) (hk:k < n):(bvals v n).set k (.bool true)=bvals (v ||| qbit k) n:=
 bvals_set v _ true hk fun i hi=>by
  rw [put_get _ _ _ (by omega)]
  by_cases e:k=i
  ·rw [if_pos e,decide_eq_true e.symm];simp
  ·rw [if_neg e,decide_eq_false (fun h=>e h.symm)];simp
theorem bvals_drop (v:BitVec 64) {n k:Nat} (hn:n≤64) (hk:k < n):(bvals v n).set k (.bool false)=bvals (v &&& ~~~ qbit k) n:=
 bvals_set v _ false hk fun i hi=>by
  rw [drop_get _ _ _ (by omega)]
  by_cases e:k=i
  ·rw [if_pos e,decide_eq_true e.symm];simp
  ·rw [if_neg e,decide_eq_false (fun h=>e h.symm)];simp
theorem bvals_zero (n:Nat):List.replicate n (.bool false)=bvals 0#64 n:=by
 apply List.ext_getElem?
 intro i
 by_cases hi:i < n
 ·rw [bvals_at _ hi,List.getElem?_replicate,if_pos hi];simp
 ·rw [bvals_out _ (by omega),List.getElem?_replicate,if_neg hi]
/-- The reference's set: its own block g, its bools' row in block h. -/
structure RSetAt (w:World) (g h n:Nat) (v:BitVec 64):Prop where
 row:w.heap[g]?=some (.cells #[.slice (some ⟨h,0,none⟩) n n] 71 (0,0))
 own:w.heap[h]?=some (.cells (bvals v n).toArray 4 (0,0))
 ne:g ≠ h
theorem RSetAt.lt {w:World} {g h n:Nat} {v:BitVec 64} (r:RSetAt w g h n v):g < w.heap.size∧h < w.heap.size:=⟨(Array.getElem?_eq_some_iff.1 r.row).1,(Array.getElem?_eq_some_iff.1 r.own).1⟩
theorem RSetAt.below {w w':World} {g h n:Nat} {v:BitVec 64} (r:RSetAt w g h n v) (hb:Below w.heap.size w w'):RSetAt w' g h n v:=
 ⟨by rw [hb.block g r.lt.1];exact r.row,by rw [hb.block h r.lt.2];exact r.own,r.ne⟩
theorem set_grown (w:World) (g i:Nat) (x:Value):w.grownBy (w.setCell ⟨g,i,none⟩ x) (some g):=
 ⟨rfl,rfl,rfl,by simp,fun k _ hk=>heap_setCell_other w ⟨g,i,none⟩ k x (fun e=>hk (by simp [e]))⟩
theorem heap_alloc_old (w:World) (o:Obj) {k:Nat} (h:k < w.heap.size):(w.alloc o).heap[k]?=w.heap[k]?:=by
 show (w.heap.push o)[k]?=_
 simp [Array.getElem?_push,Nat.ne_of_lt h]
theorem boolI:(Tryz.prog.info? 4).map (fun i=>(i.zero,i.size,i.bytes))=some (some (.bool false),1,1):=by kernel_rfl
theorem rnew_yes (n:Nat) (w:World) (h1:1≤n) (h2:n≤64):Calls Tryz.prog 25 #[.int .i64 n] w fun e w'=>∃ g h,e = .returned (.tuple #[.pointer (some ⟨g,0,none⟩),.int .i64 0])∧w.heap.size≤g∧w.heap.size≤h∧RSetAt w' g h n 0#64∧Below w.heap.size w w':=by
 obtain ⟨i0,hi,hz0,hz1,hz2⟩:=info_parts boolI
 go_enter Tryz.func25,Tryz.ntmps25
 go_wp2_with (refine wpList_make_full _ rfl _ _ 25 rfl w.heap.size 4 i0 (.bool false) 1 Tryz.underlying25 hi hz0 hz1 .i64 .i64 _ _ n rfl rfl rfl rfl (by rw [hz2];omega) (by unfold maxLen;omega) (Nat.le_refl _) ?_;intro w1 ho1 hg1)
 go_ret2
 have hsz:=hg1.size
 have hlt:w.heap.size < w1.heap.size:=(ho1.lt _ rfl).2
 refine ⟨_,_,rfl,hsz,Nat.le_refl _,⟨heap_alloc_new _ _,?_,by omega⟩,((Below.refl w.heap.size w).grown hg1 (Nat.le_refl _) (fun _ h=>by cases h)).trans (((Below.refl w1.heap.size w1).alloc (Nat.le_refl _) _).mono hsz)⟩
 rw [heap_alloc_old _ _ hlt]
 rcases ho1.2 with ⟨hv,_⟩ | ⟨g',cap,cur,hv,_,hh,_,_,hcs,htake⟩
 ·simp at hv
 ·simp only [Value.slice.injEq,Option.some.injEq,Addr.mk.injEq,and_true,true_and] at hv
  obtain ⟨rfl,rfl⟩:=hv
  rw [hh]
  congr 2
  rw [show (Value.bool false).cells = #[.bool false] from rfl,toList_madeCells_one,Nat.mul_one,bvals_zero,List.take_of_length_le (by rw [Array.length_toList,hcs];omega)] at htake
  rw [← htake]
/-- No number from n on is in it. -/
def lowB (v:BitVec 64) (n:Nat):Prop:=∀ i,n≤i→v.getLsbD i=false
theorem lowB_zero (n:Nat):lowB 0#64 n:=fun i _=>by simp
/-- What a row of numbers, taken first, makes: none where one may not be. -/
def ofL (n:Int):BitVec 64→List Int→Option (BitVec 64)
 | v,[]=>some v
 | v,p :: r=>if 0≤p∧p < n∧v.getLsbD p.toNat=false then ofL n (v ||| qbit p.toNat) r else none
/-- What Of answers. -/
def OfPost (n:Int) (r:Option (BitVec 64)) (w:World) (e:Ending) (w':World):Prop:=
 Below w.heap.size w w'∧((r=none∧e = .returned (.tuple #[.pointer none,.int .i64 1]))∨∃ v g,r=some v∧e = .returned (.tuple #[.pointer (some ⟨g,0,none⟩),.int .i64 0])∧w.heap.size≤g∧SetAt w' g n v)
theorem belowNp {B:Nat} {a w:World} (h:Below B a w) (n:Nat):Below B a (w.drewN n):=⟨h.os,h.tape,h.output,h.size,h.block⟩
theorem ofL_drop {n:Int} {v:BitVec 64} {l:List Int} {k:Nat} (hk:k < l.length) :
  ofL n v (l.drop k)=if 0≤nth l k∧nth l k < n∧v.getLsbD (nth l k).toNat=false then ofL n (v ||| qbit (nth l k).toNat) (l.drop (k+1)) else none:=by
 rw [List.drop_eq_getElem_cons hk,← nth_eq hk];rfl
set_option linter.unusedVariables false in
set_option maxHeartbeats 1000000 in
theorem of_any (n:Nat) (a:Option Addr) (np cp:Nat) (lp:List Int) (w:World) (hr:RdAt .i64 w a np cp lp) (h1:1≤n) (h2:n≤64) (R:Option (BitVec 64)) (hR:ofL n 0#64 lp=R) :
  Calls Tryz.prog 49 #[.int .i64 n,.slice a np cp] w (OfPost n R w):=by
 have hlen:=hr.len
 have hmax:=hr.max
 have hcap:=hr.cap
 unfold maxLen at hmax
 have HR:=Lib.hid hr;have HL:=Lib.hid hlen;have HRR:=Lib.hid hR;clear hr hlen hR
 go_enter Tryz.func49,Tryz.ntmps49
 go_wp2_with fail
 refine (newset_yes n w (by omega) (by omega)).mono ?_
 rintro e w1 ⟨rfl,hs,hb⟩
 have HS:=Lib.hid hs;clear hs;go_wp2_with fail
 go_loopw [20] (fun i wr=>∃ (k:Nat) (v:BitVec 64),k≤np∧i = .int .i64 k∧SetAt wr w.heap.size n v∧Below w.heap.size w wr∧Hid (ofL n v (lp.drop k)=R)) (fun i _=>np - (intOf i).toNat)
 case atStart=>exact ⟨0,_,by omega,rfl,HS.out,hb,HRR⟩
 case round=>
  clear HS hb
  obtain ⟨k,v,hk,rfl,hs,hb,HO⟩:=hrel
  obtain ⟨c0,c1,cf⟩:=hs.cells
  have HS:=Lib.hid hs
  have hb':=hb
  have HB:=Lib.hid hb;clear hs hb
  by_cases hp:k < np
  ·obtain ⟨b,ad,rfl,hcell⟩:=(HR.out.below hb').cell k hp
   have hpw:=wf_i64_bd (HR.out.wfAt k hp)
   have hst:=ofL_drop (n:=n) (v:=v) (l:=lp) (k:=k) (by rw [HL.out];exact hp)
   obtain ⟨p,hpe⟩:∃ p,nth lp k=p:=⟨_,rfl⟩
   rw [hpe] at hcell hpw hst;clear hpe hb'
   have no:¬ (0≤p∧p < n∧v.getLsbD p.toNat=false)→R=none:=by
    intro hn;rw [if_neg hn] at hst;rw [← HO.out,hst]
   by_cases hp0:p < 0
   ·have hd0:decide (p < 0)=true:=decide_eq_true hp0
    have hno:=no (by omega)
    clear no hst;subst hno;go_wp2_with fail
    go_ret2
    exact ⟨HB.out,.inl ⟨rfl,rfl⟩⟩
   ·have hd0:decide (p < 0)=false:=decide_eq_false hp0
    obtain ⟨q,rfl⟩:=Int.eq_ofNat_of_zero_le (show 0≤p by omega)
    by_cases hpn:(q:Int) < n
    ·have hd1:decide ((n:Int)≤q)=false:=decide_eq_false (by omega)
     have hd1n:decide (n≤q)=false:=decide_eq_false (by omega)
     have hqn:q < n:=by omega
     by_cases hv:v.getLsbD q=true
     ·have hbk:hasB n v q=true:=by rw [hasB_nat hqn];exact hv
      have hno:=no (by rw [Int.toNat_natCast,hv];simp)
      clear no hst hv;subst hno
      go_wp2_with (go_at_call 63;refine (has_any _ _ _ _ _ HS.out (by omega)).mono ?_;rintro e w' ⟨rfl,rfl⟩)
      go_ret2
      exact ⟨HB.out,.inl ⟨rfl,rfl⟩⟩
     ·rw [Bool.not_eq_true] at hv
      have hbk:hasB n v q=false:=by rw [hasB_nat hqn];exact hv
      have HQ:=Lib.hid (q_put' v q (by omega))
      rw [Int.toNat_natCast,hv,if_pos ⟨by omega,by omega,rfl⟩] at hst
      have HST:=Lib.hid hst;clear hst no hv
      go_wp2_with (go_at_call 63;refine (has_any _ _ _ _ _ HS.out (by omega)).mono ?_;rintro e w' ⟨rfl,rfl⟩)
      go_region
      go_wp2_with fail
      go_roundw
      case rel=>exact ⟨k+1,_,by omega,by go_num,HS.out.put _ _ HQ.out,(HB.out.setCell (Nat.le_refl _) _).drew,by rw [← HO.out,HST.out];exact Lib.hid rfl⟩
      case measure=>simp [intOf] <;> omega
    ·have hd1:decide ((n:Int)≤q)=true:=decide_eq_true (by omega)
     have hd1n:decide (n≤q)=true:=decide_eq_true (by omega)
     have hno:=no (by omega)
     clear no hst;subst hno;go_wp2_with fail
     go_ret2
     exact ⟨HB.out,.inl ⟨rfl,rfl⟩⟩
  ·obtain rfl:k=np:=by omega
   have hRv:R=some v:=by rw [← HO.out,List.drop_of_length_le (by rw [HL.out];exact Nat.le_refl _)];rfl
   subst hRv;clear hb';go_wp2_with fail
   go_ret2
   exact ⟨HB.out,.inr ⟨v,_,rfl,rfl,Nat.le_refl _,HS.out⟩⟩
def tkN (v:BitVec 64) (n:Nat):Int:=if firstF v n < n then (firstF v n:Nat) else 0
def tkV (v:BitVec 64) (n:Nat):BitVec 64:=if firstF v n < n then v ||| qbit (firstF v n) else v
def frV (v:BitVec 64) (n:Nat) (p:Int):BitVec 64:=if hasB n v p=true then v &&& ~~~ qbit p.toNat else v
theorem hasB_pos {n v} {p:Int} (h:hasB n v p=true):0≤p:=by
 unfold hasB at h
 simp only [Bool.and_eq_true,decide_eq_true_eq] at h
 exact h.1
/-- All of it but the sets. -/
def PB (stop:Int) (w0 w:World):Prop:=w.heap[w0.heap.size]?=some (.cells #[.int .i64 stop] 3 (0,0))∧Below w0.heap.size w0 w
end Go.Proofs.YtoepnbfifjgpfaaGreat
