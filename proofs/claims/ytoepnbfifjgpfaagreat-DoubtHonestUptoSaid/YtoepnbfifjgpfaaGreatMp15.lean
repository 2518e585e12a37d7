/- The doubt's Boot. few, of chapter 25; the doubt's Live. -/
import Derived.Test.YtoepnbfifjgpfaaGreatMu0
import Derived.Test.YtoepnbfifjgpfaaGreatMp14
import Derived.Test.YtoepnbfifjgpfaaGreatMu3
import Derived.Test.YtoepnbfifjgpfaaGreatMu10
import Derived.WalkKit
import Derived.ProofKit
import Derived.BigQuiet
import Derived.Deep.QuietTactic
import Derived.Lib.Hide
import Derived.RegionTactic
import Derived.Test.YtoepnbfifjgpfaaGreatMp1
import Derived.Test.YtoepnbfifjgpfaaGreatMu24
import Derived.Test.YtoepnbfifjgpfaaGreatMp11
namespace Go.Proofs.YtoepnbfifjgpfaaGreat
set_option maxRecDepth 100000
open Go.RowKit
set_option linter.unusedSimpArgs false
section
variable {w0 w:World} {PS:List Pty} {O:List OpsR} {b:Nat} {c:Cf} {sv pd:Option Nat} {ep:Int} {db:Bool}
theorem set2 {x:Pty} {L:List Pty} {i:Nat} {y:Pty}:(L.set i x).set i y=L.set i y:=List.set_set ..
theorem get_set {x:Pty} {L:List Pty} {i:Nat} {y:Pty} (h:L[i]?=some y):(L.set i x)[i]?=some x:=by rw [List.getElem?_set];simp;exact (List.getElem?_eq_some_iff.1 h).1
theorem get_ne {x:Pty} {L:List Pty} {i j:Nat} {y:Pty} (h:L[j]?=some y) (hij:i ≠ j):(L.set i x)[j]?=some y:=by rw [List.getElem?_set,if_neg hij];exact h
set_option maxHeartbeats 2000000 in
theorem boot_known (s:Ptys w0 w PS O) (hS:PS[0]?=some (duP b c none sv ep pd db)) {iM:Nat} {hM:McH} {M:Mc} (hMM:PS[iM]?=some (mcP hM M)) {P1:Pty} (h1:PS[1]?=some P1) (E:Int) (hep:0≤ep∧ep≤1000000) (hE:(E=ep∧sv=some hM.m)∨(E=ep+1∧db=true∧pd=some hM.m)) 
  (hsee:∀ w2,Below w.heap.size w w2→Calls Tryz.prog 19 #[.pointer (some ⟨hM.m,0,none⟩)] w2 fun e w'=>e = .returned (.bool true)∧Below w2.heap.size w2 w') :
  Calls Tryz.prog 14 #[.pointer (some ⟨b,0,none⟩),.int .i64 0,.int .u64 E,.bool false,.func (.func 19) #[] #[]] w fun e w'=>∃ h2:McH,e = .returned (.int .i64 0)∧Ptys w0 w' ((PS.set 1 (mcP h2 M)).set 0 (duP b c (some h2.m) (some hM.m) E none false)) O:=by
 have hd:=s.du hS
 have hb:=below_a2 w (.cells #[.pointer (some ⟨b,0,none⟩)] 28) (.cells #[.int .u64 E] 36)
 have hr0:=al2_0 w (.cells #[.pointer (some ⟨b,0,none⟩)] 28) (.cells #[.int .u64 E] 36)
 have hr1:=al2_1 w (.cells #[.pointer (some ⟨b,0,none⟩)] 28) (.cells #[.int .u64 E] 36)
 obtain ⟨wA,hwA⟩:∃ y,(w.alloc (.cells #[.pointer (some ⟨b,0,none⟩)] 28)).alloc (.cells #[.int .u64 E] 36)=y:=⟨_,rfl⟩
 rw [hwA] at hb hr0 hr1
 have z0:wA.cell? ⟨w.heap.size,0,none⟩=some (.pointer (some ⟨b,0,none⟩)):=(cell_of_row _ _ 0 _ _ _ hr0).trans rfl
 have z1:wA.cell? ⟨w.heap.size+1,0,none⟩=some (.int .u64 E):=(cell_of_row _ _ 0 _ _ _ hr1).trans rfl
 have HF:Hid (Calls Tryz.prog 41 #[.pointer (some ⟨w.heap.size+1,0,none⟩),.pointer (some ⟨w.heap.size,0,none⟩)] wA fun e w'=>e = .returned (.pointer (some ⟨hM.m,0,none⟩))∧Below wA.heap.size wA w'):=by
  show Calls _ _ _ _ _
  rcases hE with ⟨rfl,rfl⟩ | ⟨rfl,rfl,rfl⟩
  ·exact found_saved (hd.below hb) _ _ z1 z0
  ·exact found_pend (hd.below hb) hep _ _ z1 z0
 have HS:=Lib.hid s;have HI:=Lib.hid hS;have HM:=Lib.hid hMM;have H1:=Lib.hid h1;have HSEE:=Lib.hid hsee;have HB:=Lib.hid hb;have HWA:=Lib.hid hwA
 have hcs:wA.heap.size=w.heap.size+2:=by rw [← hwA];simp
 have hbl:b < w.heap.size:=(Array.getElem?_eq_some_iff.1 hd.row).1
 have HBL:=Lib.hid hbl;have HCS:=Lib.hid hcs;clear s hS hMM h1 hsee hd hb hr0 hr1 hwA hE hep hcs hbl
 go_enter Tryz.func14,Tryz.ntmps14
 go_wp2_with (rw [HWA.out])
 refine HF.out.mono ?_
 rintro e w2 ⟨rfl,hb2⟩
 replace z0:=cel0 hb2 z0;replace z1:=cel0 hb2 z1
 have HB2:=Lib.hid (HB.out.trans (hb2.mono HB.out.size))
 clear HF hb2;go_wp2_with fail
 refine (HSEE.out w2 HB2.out).mono ?_
 rintro e wB ⟨rfl,hb3⟩
 replace z0:=cel0 hb3 z0;replace z1:=cel0 hb3 z1
 have HB3:=Lib.hid (HB2.out.trans (hb3.mono HB2.out.size))
 have HPS:=Lib.hid (HS.out.below HB3.out)
 have HD3:=Lib.hid (HPS.out.du HI.out)
 have Z0:=Lib.hid z0;have Z1:=Lib.hid z1
 have hzl:=block_lt_of_cell z0
 have hzl1:=block_lt_of_cell z1
 have HZL:Hid (w.heap.size < wB.heap.size∧w.heap.size+1 < wB.heap.size):=⟨hzl,hzl1⟩
 have i0:Tn (fun k=>k=b) wB wB.drew:=Tn.of (Below.refl _ _).drew
 have i6:Ptys w0 wB.drew PS O:=HPS.out.below (Below.refl _ _).drew
 have i9:wB.drew.heap[b]?=some (.cells (duRow c none sv ep pd db) 63 (0,0)):=row_keep HD3.out.row (Below.refl _ _).drew
 clear z0 z1 hzl hzl1 hb3 HB2;go_wp2_with fail
 refine' reg_kill [(12,9),(15,9),(15,12)] [eqV _,eqV _,eqV _,eqV _,eqV _,eqV _,(fun v w5=>∃ h2:McH,v=Value.pointer (some ⟨h2.m,0,none⟩)∧∃ row,Ptys w0 w5 ((PS.set 1 (mcP h2 M)).set 0 (blkP b row 63)) O),eqV _,eqV _,(fun _ w5=>w5.heap[b]?=some (.cells (duRow c none (some hM.m) ep pd db) 63 (0,0))),eqV _,eqV _,(fun _ w5=>w5.heap[b]?=some (.cells (duRow c none (some hM.m) E pd db) 63 (0,0))),eqV _,eqV _,(fun _ w5=>∃ h2:McH,Ptys w0 w5 ((PS.set 1 (mcP h2 M)).set 0 (blkP b (duRow c (some h2.m) (some hM.m) E pd db) 63)) O)] [(9,fun w5 w6=>Tn (fun k=>k=b) w5 w6∧∃ row',w6.heap[b]?=some (.cells row' 63 (0,0))),(12,fun w5 w6=>Tn (fun k=>k=b) w5 w6∧∃ row',w6.heap[b]?=some (.cells row' 63 (0,0))),(15,fun w5 w6=>Tn (fun k=>k=b) w5 w6∧∃ row',w6.heap[b]?=some (.cells row' 63 (0,0)))] [(0,fun w5=>Tn (fun k=>k=b) wB w5),(1,fun w5=>Tn (fun k=>k=b) wB w5),(2,fun w5=>Tn (fun k=>k=b) wB w5),(4,fun w5=>Tn (fun k=>k=b) wB w5),(6,fun w5=>Ptys w0 w5 PS O),(9,fun w5=>w5.heap[b]?=some (.cells (duRow c none sv ep pd db) 63 (0,0))),(16,fun w5=>Tn (fun k=>k=b) wB w5)] [30,31,32,33,34,35,36,37,38,58,39,40,61,41,42,64] [[],[],[],[],[],[],[5],[0],[7],[3,8],[1],[10],[4,9,11],[2],[13],[6,12,14]] [0,1,2,3,4,5,6,7,8,9,10,11,12,13,14,15] 16 (by kernel_rfl) (by kernel_rfl) ⟨eS _,eS _,eS _,eS _,eS _,eS _,fun _ _ _ p g=>by obtain ⟨h2,e,row,q⟩:=p;exact ⟨h2,e,row,q.below g⟩,eS _,eS _,fun _ _ _ p g=>row_keep p g,eS _,eS _,fun _ _ _ p g=>row_keep p g,eS _,eS _,fun _ _ _ p g=>by obtain ⟨h2,q⟩:=p;exact ⟨h2,q.below g⟩,trivial⟩ ⟨⟨.inl (eS _),.inl (eS _),.inl (eS _),.inl (eS _),.inl (eS _),.inl (eS _),.inl (fun _ _ _ p g=>by obtain ⟨h2,e,row,q⟩:=p;obtain ⟨t,row',hr⟩:=g;exact ⟨h2,e,row',by have:=q.turn 0 (get_set (get_ne HI.out (by omega))) t hr;rw [set2] at this;exact this⟩),.inl (eS _),.inl (eS _),.inr (.inr (.inl rfl)),.inl (eS _),.inl (eS _),.inr (.inl (by kernel_rfl)),.inl (eS _),.inl (eS _),.inr (.inl (by kernel_rfl)),trivial⟩,⟨.inl (eS _),.inl (eS _),.inl (eS _),.inl (eS _),.inl (eS _),.inl (eS _),.inl (fun _ _ _ p g=>by obtain ⟨h2,e,row,q⟩:=p;obtain ⟨t,row',hr⟩:=g;exact ⟨h2,e,row',by have:=q.turn 0 (get_set (get_ne HI.out (by omega))) t hr;rw [set2] at this;exact this⟩),.inl (eS _),.inl (eS _),.inr (.inr (.inr (by kernel_rfl))),.inl (eS _),.inl (eS _),.inr (.inr (.inl rfl)),.inl (eS _),.inl (eS _),.inr (.inl (by kernel_rfl)),trivial⟩,⟨.inl (eS _),.inl (eS _),.inl (eS _),.inl (eS _),.inl (eS _),.inl (eS _),.inl (fun _ _ _ p g=>by obtain ⟨h2,e,row,q⟩:=p;obtain ⟨t,row',hr⟩:=g;exact ⟨h2,e,row',by have:=q.turn 0 (get_set (get_ne HI.out (by omega))) t hr;rw [set2] at this;exact this⟩),.inl (eS _),.inl (eS _),.inr (.inr (.inr (by kernel_rfl))),.inl (eS _),.inl (eS _),.inr (.inr (.inr (by kernel_rfl))),.inl (eS _),.inl (eS _),.inr (.inr (.inl rfl)),trivial⟩,trivial⟩ ⟨fun _ _ p g=>Tn.call p g,fun _ _ p g=>Tn.call p g,fun _ _ p g=>Tn.call p g,fun _ _ p g=>Tn.call p g,fun _ _ p g=>Ptys.below p g,fun _ _ p g=>row_keep p g,fun _ _ p g=>Tn.call p g,trivial⟩ ⟨⟨.inr (.inl (by kernel_rfl)),.inl (fun _ _ p g=>Tn.trans p g.1),.inl (fun _ _ p g=>Tn.trans p g.1),.inl (fun _ _ p g=>Tn.trans p g.1),.inr (.inl (by kernel_rfl)),.inr (.inr rfl),.inl (fun _ _ p g=>Tn.trans p g.1),trivial⟩,⟨.inr (.inl (by kernel_rfl)),.inr (.inl (by kernel_rfl)),.inl (fun _ _ p g=>Tn.trans p g.1),.inr (.inl (by kernel_rfl)),.inr (.inl (by kernel_rfl)),.inr (.inl (by kernel_rfl)),.inl (fun _ _ p g=>Tn.trans p g.1),trivial⟩,⟨.inr (.inl (by kernel_rfl)),.inr (.inl (by kernel_rfl)),.inr (.inl (by kernel_rfl)),.inr (.inl (by kernel_rfl)),.inr (.inl (by kernel_rfl)),.inr (.inl (by kernel_rfl)),.inl (fun _ _ p g=>Tn.trans p g.1),trivial⟩,trivial⟩ ⟨i0,i0,i0,i0,i6,i9,i0,trivial⟩ 49 rfl (by kernel_rfl) (by kernel_rfl) rfl rfl 16 rfl ?q1obl ?q1fin
 case q1obl=>
  refine ⟨?q1o0,?q1o1,?q1o2,?q1o3,?q1o4,?q1o5,?q1o6,?q1o7,?q1o8,?q1o9,?q1o10,?q1o11,?q1o12,?q1o13,?q1o14,?q1o15,trivial⟩
  case q1o0=>
   intro w1 hI
   replace hI:(fun w5=>Tn (fun k=>k=b) wB w5) w1:=hI
   refine t2o (by rfl) ?_;intro K hK
   have hc:=(World.cell?_of_block (a:=⟨w.heap.size,0,none⟩) (hI.block _ HZL.out.1 (fun e=>by have e2:w.heap.size=b:=e;have:=HBL.out;omega))).trans Z0.out
   go_simp;refine hK _ _ ⟨rfl,Kept.refl _,?_⟩;show _=_;simp only [gv1];rfl
  case q1o1=>
   intro w1 hI
   replace hI:(fun w5=>Tn (fun k=>k=b) wB w5) w1:=hI
   refine t2o (by rfl) ?_;intro K hK
   have hc:=(World.cell?_of_block (a:=⟨w.heap.size,0,none⟩) (hI.block _ HZL.out.1 (fun e=>by have e2:w.heap.size=b:=e;have:=HBL.out;omega))).trans Z0.out
   go_simp;refine hK _ _ ⟨rfl,Kept.refl _,?_⟩;show _=_;simp only [gv1];rfl
  case q1o2=>
   intro w1 hI
   replace hI:(fun w5=>Tn (fun k=>k=b) wB w5) w1:=hI
   refine t2o (by rfl) ?_;intro K hK
   have hc:=(World.cell?_of_block (a:=⟨w.heap.size,0,none⟩) (hI.block _ HZL.out.1 (fun e=>by have e2:w.heap.size=b:=e;have:=HBL.out;omega))).trans Z0.out
   go_simp;refine hK _ _ ⟨rfl,Kept.refl _,?_⟩;show _=_;simp only [gv1];rfl
  case q1o3 | q1o5=>
   intro w1 hI;refine t2o (by rfl) ?_;intro K hK;go_simp;refine hK _ _ ⟨rfl,Kept.refl _,?_⟩;show _=_;simp only [gv1];rfl
  case q1o4=>
   intro w1 hI
   replace hI:(fun w5=>Tn (fun k=>k=b) wB w5) w1:=hI
   refine t2o (by rfl) ?_;intro K hK
   have hc:=(World.cell?_of_block (a:=⟨w.heap.size+1,0,none⟩) (hI.block _ HZL.out.2 (fun e=>by have e2:w.heap.size+1=b:=e;have:=HBL.out;omega))).trans Z1.out
   go_simp;refine hK _ _ ⟨rfl,Kept.refl _,?_⟩;show _=_;simp only [gv1];rfl
  case q1o6=>
   intro w1 hI
   replace hI:(fun w5=>Ptys w0 w5 PS O) w1:=hI
   intro v5 h5;change _=_ at h5;subst v5;refine t2o (by rfl) ?_;intro K hK;simp only [gv2];go_simp
   refine Calls.mono ((hI:Ptys w0 w1 PS O).putTwin _ 1 HM.out H1.out) ?_
   rintro e w9 ⟨h2,rfl,q,hb9⟩
   refine hK _ _ ⟨rfl,hb9,?_⟩
   exact ⟨h2,rfl,_,by have:=q.turn 0 (get_ne HI.out (by omega)) (Tn.refl _ _) (q.row (get_ne HI.out (by omega)));exact this⟩
  case q1o7 | q1o8=>
   intro w1 hI;intro va ha;change _=_ at ha;subst va;refine t2o (by rfl) ?_;intro K hK;simp only [gv2];go_simp;refine hK _ _ ⟨rfl,Kept.refl _,?_⟩;show _=_;simp only [gv1];rfl
  case q1o9=>
   intro w1 hI
   replace hI:(fun w5=>w5.heap[b]?=some (.cells (duRow c none sv ep pd db) 63 (0,0))) w1:=hI
   intro v3 h3;change _=_ at h3;subst v3;intro v8 h8;change _=_ at h8;subst v8;refine t2o (by rfl) ?_;intro K hK;simp only [gv2]
   have hc:=cell_of_row w1 b 10 _ _ _ hI
   simp only [duRow] at hc
   have hf:=frozen_of_row w1 b 10 _ _ hI
   have hrr:=heap_setCell_same w1 b 10 _ _ (.pointer (some ⟨hM.m,0,none⟩)) hI
   go_simp
   refine hK _ _ ⟨rfl,⟨tn_set w1 b 10 _,_,hrr⟩,?_⟩
   exact hrr
  case q1o10 | q1o11=>
   intro w1 hI;intro va ha;change _=_ at ha;subst va;refine t2o (by rfl) ?_;intro K hK;simp only [gv2];go_simp;refine hK _ _ ⟨rfl,Kept.refl _,?_⟩;show _=_;simp only [gv1];rfl
  case q1o12=>
   intro w1 hI;intro v4 h4;change _=_ at h4;subst v4;intro v9 h9;intro v11 h11;change _=_ at h11;subst v11;refine t2o (by rfl) ?_;intro K hK;simp only [gv2]
   have hc:=cell_of_row w1 b 11 _ _ _ h9
   simp only [duRow] at hc
   have hf:=frozen_of_row w1 b 11 _ _ h9
   have hrr:=heap_setCell_same w1 b 11 _ _ (.int .u64 E) h9
   go_simp
   refine hK _ _ ⟨rfl,⟨tn_set w1 b 11 _,_,hrr⟩,?_⟩
   exact hrr
  case q1o13 | q1o14=>
   intro w1 hI;intro va ha;change _=_ at ha;subst va;refine t2o (by rfl) ?_;intro K hK;simp only [gv2];go_simp;refine hK _ _ ⟨rfl,Kept.refl _,?_⟩;show _=_;simp only [gv1];rfl
  case q1o15=>
   intro w1 hI;intro v6 h6
   obtain ⟨g6,rfl,r6,s6⟩:=h6
   intro v12 h12;intro v14 h14;change _=_ at h14;subst v14;refine t2o (by rfl) ?_;intro K hK;simp only [gv2]
   have hc:=cell_of_row w1 b 9 _ _ _ h12
   simp only [duRow] at hc
   have hf:=frozen_of_row w1 b 9 _ _ h12
   have hrr:=heap_setCell_same w1 b 9 _ _ (.pointer (some ⟨g6.m,0,none⟩)) h12
   go_simp
   refine hK _ _ ⟨rfl,⟨tn_set w1 b 9 _,_,hrr⟩,?_⟩
   exact ⟨g6,by have:=s6.turn 0 (get_set (get_ne HI.out (by omega))) (tn_set w1 b 9 _) hrr;rw [set2] at this;exact this⟩
 intro w5 hI
 replace hI:(fun w5=>Tn (fun k=>k=b) wB w5) w5:=hI
 intro v0 h0;replace h0:=h0 (by kernel_rfl);change _=_ at h0;subst v0;intro v1 h1;replace h1:=h1 (by kernel_rfl);change _=_ at h1;subst v1;intro v2 h2;replace h2:=h2 (by kernel_rfl);change _=_ at h2;subst v2;intro v3 h3;replace h3:=h3 (by kernel_rfl);change _=_ at h3;subst v3;intro v4 h4;replace h4:=h4 (by kernel_rfl);change _=_ at h4;subst v4;intro v5 h5;replace h5:=h5 (by kernel_rfl)
 change _=_ at h5;subst v5;intro v6 h6;replace h6:=h6 (by kernel_rfl)
 obtain ⟨g6,rfl,r6,s6⟩:=h6
 intro v7 h7;replace h7:=h7 (by kernel_rfl);change _=_ at h7;subst v7;intro v8 h8;replace h8:=h8 (by kernel_rfl);change _=_ at h8;subst v8;intro v9 _;intro v10 h10;replace h10:=h10 (by kernel_rfl);change _=_ at h10;subst v10;intro v11 h11;replace h11:=h11 (by kernel_rfl);change _=_ at h11;subst v11;intro v12 _;intro v13 h13;replace h13:=h13 (by kernel_rfl);change _=_ at h13
 subst v13;intro v14 h14;replace h14:=h14 (by kernel_rfl);change _=_ at h14;subst v14;intro v15 h15;replace h15:=h15 (by kernel_rfl)
 obtain ⟨g15,s15⟩:=h15
 simp only [Given,gv2]
 have hz0:=(World.cell?_of_block (a:=⟨w.heap.size,0,none⟩) ((hI:Tn (fun k=>k=b) wB w5).block _ HZL.out.1 (fun e=>by have e2:w.heap.size=b:=e;have:=HBL.out;omega))).trans Z0.out
 have hzl2:=block_lt_of_cell hz0
 have hgs:=get_set (x:=mcP g15 M) H1.out
 have hg0:=get_ne (x:=mcP g15 M) HI.out (show (1:Nat) ≠ 0 by omega)
 have hg1:=get_set (x:=blkP b (duRow c (some g15.m) (some hM.m) E pd db) 63) hg0
 have HG1:=Lib.hid hg1
 have hrow:=s15.row hg1
 have S15:=Lib.hid s15;have HZ2:=Lib.hid hz0
 have HZL2:Hid (w.heap.size < w5.heap.size):=hzl2
 have j0:Tn (fun k=>k=b) w5 w5.drew:=Tn.of (Below.refl _ _).drew
 have j4:w5.drew.heap[b]?=some (.cells (duRow c (some g15.m) (some hM.m) E pd db) 63 (0,0)):=row_keep hrow (Below.refl _ _).drew
 clear hz0 hzl2 hgs hg0 hg1 hrow s15 s6 hI i0 i6 i9;go_wp2_with fail
 refine' reg_kill [(7,4)] [eqV _,eqV _,eqV _,eqV _,(fun _ w6=>w6.heap[b]?=some (.cells (duRow c (some g15.m) (some hM.m) E none db) 63 (0,0))),eqV _,eqV _,(fun _ w6=>w6.heap[b]?=some (.cells (duRow c (some g15.m) (some hM.m) E none false) 63 (0,0)))] [(4,fun w5 w6=>Tn (fun k=>k=b) w5 w6∧∃ row',w6.heap[b]?=some (.cells row' 63 (0,0))),(7,fun w5 w6=>Tn (fun k=>k=b) w5 w6∧∃ row',w6.heap[b]?=some (.cells row' 63 (0,0)))] [(0,fun w6=>Tn (fun k=>k=b) w5 w6),(1,fun w6=>Tn (fun k=>k=b) w5 w6),(4,fun w6=>w6.heap[b]?=some (.cells (duRow c (some g15.m) (some hM.m) E pd db) 63 (0,0))),(8,fun w6=>Tn (fun k=>k=b) w5 w6)] [43,44,45,46,53,47,48,56] [[],[],[0],[2],[3],[1],[5],[4,6]] [0,1,2,3,4,5,6,7] 8 (by kernel_rfl) (by kernel_rfl) ⟨eS _,eS _,eS _,eS _,fun _ _ _ p g=>row_keep p g,eS _,eS _,fun _ _ _ p g=>row_keep p g,trivial⟩ ⟨⟨.inl (eS _),.inl (eS _),.inl (eS _),.inl (eS _),.inr (.inr (.inl rfl)),.inl (eS _),.inl (eS _),.inr (.inl (by kernel_rfl)),trivial⟩,⟨.inl (eS _),.inl (eS _),.inl (eS _),.inl (eS _),.inr (.inr (.inr (by kernel_rfl))),.inl (eS _),.inl (eS _),.inr (.inr (.inl rfl)),trivial⟩,trivial⟩ ⟨fun _ _ p g=>Tn.call p g,fun _ _ p g=>Tn.call p g,fun _ _ p g=>row_keep p g,fun _ _ p g=>Tn.call p g,trivial⟩ ⟨⟨.inr (.inl (by kernel_rfl)),.inl (fun _ _ p g=>Tn.trans p g.1),.inr (.inr rfl),.inl (fun _ _ p g=>Tn.trans p g.1),trivial⟩,⟨.inr (.inl (by kernel_rfl)),.inr (.inl (by kernel_rfl)),.inr (.inl (by kernel_rfl)),.inl (fun _ _ p g=>Tn.trans p g.1),trivial⟩,trivial⟩ ⟨j0,j0,j4,j0,trivial⟩ 49 rfl (by kernel_rfl) (by kernel_rfl) rfl rfl 8 rfl ?q2obl ?q2fin
 case q2obl=>
  refine ⟨?q2o0,?q2o1,?q2o2,?q2o3,?q2o4,?q2o5,?q2o6,?q2o7,trivial⟩
  case q2o0=>
   intro w1 hI
   replace hI:(fun w6=>Tn (fun k=>k=b) w5 w6) w1:=hI
   refine t2o (by rfl) ?_;intro K hK
   have hc:=(World.cell?_of_block (a:=⟨w.heap.size,0,none⟩) (hI.block _ HZL2.out (fun e=>by have e2:w.heap.size=b:=e;have:=HBL.out;omega))).trans HZ2.out
   go_simp;refine hK _ _ ⟨rfl,Kept.refl _,?_⟩;show _=_;simp only [gv1];rfl
  case q2o1=>
   intro w1 hI
   replace hI:(fun w6=>Tn (fun k=>k=b) w5 w6) w1:=hI
   refine t2o (by rfl) ?_;intro K hK
   have hc:=(World.cell?_of_block (a:=⟨w.heap.size,0,none⟩) (hI.block _ HZL2.out (fun e=>by have e2:w.heap.size=b:=e;have:=HBL.out;omega))).trans HZ2.out
   go_simp;refine hK _ _ ⟨rfl,Kept.refl _,?_⟩;show _=_;simp only [gv1];rfl
  case q2o2 | q2o3=>
   intro w1 hI;intro va ha;change _=_ at ha;subst va;refine t2o (by rfl) ?_;intro K hK;simp only [gv2];go_simp;refine hK _ _ ⟨rfl,Kept.refl _,?_⟩;show _=_;simp only [gv1];rfl
  case q2o4=>
   intro w1 hI
   replace hI:(fun w6=>w6.heap[b]?=some (.cells (duRow c (some g15.m) (some hM.m) E pd db) 63 (0,0))) w1:=hI
   intro v3 h3;change _=_ at h3;subst v3;refine t2o (by rfl) ?_;intro K hK;simp only [gv2]
   have hc:=cell_of_row w1 b 12 _ _ _ hI
   simp only [duRow] at hc
   have hf:=frozen_of_row w1 b 12 _ _ hI
   have hrr:=heap_setCell_same w1 b 12 _ _ (.pointer none) hI
   go_simp
   refine hK _ _ ⟨rfl,⟨tn_set w1 b 12 _,_,hrr⟩,?_⟩
   exact hrr
  case q2o5 | q2o6=>
   intro w1 hI;intro va ha;change _=_ at ha;subst va;refine t2o (by rfl) ?_;intro K hK;simp only [gv2];go_simp;refine hK _ _ ⟨rfl,Kept.refl _,?_⟩;show _=_;simp only [gv1];rfl
  case q2o7=>
   intro w1 hI;intro v4 h4;intro v6 h6;change _=_ at h6;subst v6;refine t2o (by rfl) ?_;intro K hK;simp only [gv2]
   have hc:=cell_of_row w1 b 13 _ _ _ h4
   simp only [duRow] at hc
   have hf:=frozen_of_row w1 b 13 _ _ h4
   have hrr:=heap_setCell_same w1 b 13 _ _ (.bool false) h4
   go_simp
   refine hK _ _ ⟨rfl,⟨tn_set w1 b 13 _,_,hrr⟩,?_⟩
   exact hrr
 intro w7 hI
 replace hI:(fun w6=>Tn (fun k=>k=b) w5 w6) w7:=hI
 intro v0 h0;replace h0:=h0 (by kernel_rfl);change _=_ at h0;subst v0;intro v1 h1;replace h1:=h1 (by kernel_rfl);change _=_ at h1;subst v1;intro v2 h2;replace h2:=h2 (by kernel_rfl);change _=_ at h2;subst v2;intro v3 h3;replace h3:=h3 (by kernel_rfl);change _=_ at h3;subst v3;intro v4 _;intro v5 h5;replace h5:=h5 (by kernel_rfl);change _=_ at h5;subst v5;intro v6 h6
 replace h6:=h6 (by kernel_rfl);change _=_ at h6;subst v6;intro v7 h7;replace h7:=h7 (by kernel_rfl)
 simp only [Given,gv2]
 have hT:Tn (fun k=>k=b) w5 w7:=hI
 have hfin:=S15.out.turn 0 HG1.out hT h7
 rw [set2] at hfin;have HFIN:=Lib.hid hfin;clear hfin hT hI h7;go_wp2_with fail
 go_ret
 exact ⟨g15,rfl,HFIN.out⟩
set_option maxHeartbeats 2000000 in
theorem boot_law (s:Ptys w0 w PS O) (hS:PS[0]?=some (duP b c none sv ep pd db)) {iM:Nat} {hM:McH} {M:Mc} (hMM:PS[iM]?=some (mcP hM M)) {P1:Pty} (h1:PS[1]?=some P1) (E:Int) (hep:0≤ep∧ep≤1000000) (hE:(E=ep∧sv=some hM.m)∨(E=ep+1∧db=true∧pd=some hM.m)) (bx:Nat) 
  (hsee:∀ w2,Below w.heap.size w w2→Calls Tryz.prog 15 #[.pointer (some ⟨hM.m,0,none⟩),.pointer (some ⟨bx,0,none⟩)] w2 fun e w'=>e = .returned (.bool true)∧Below w2.heap.size w2 w') :
  Calls Tryz.prog 14 #[.pointer (some ⟨b,0,none⟩),.int .i64 0,.int .u64 E,.bool false,.func (.func 15) #[] #[.pointer (some ⟨bx,0,none⟩)]] w fun e w'=>∃ h2:McH,e = .returned (.int .i64 0)∧Ptys w0 w' ((PS.set 1 (mcP h2 M)).set 0 (duP b c (some h2.m) (some hM.m) E none false)) O:=by
 have hd:=s.du hS
 have hb:=below_a2 w (.cells #[.pointer (some ⟨b,0,none⟩)] 28) (.cells #[.int .u64 E] 36)
 have hr0:=al2_0 w (.cells #[.pointer (some ⟨b,0,none⟩)] 28) (.cells #[.int .u64 E] 36)
 have hr1:=al2_1 w (.cells #[.pointer (some ⟨b,0,none⟩)] 28) (.cells #[.int .u64 E] 36)
 obtain ⟨wA,hwA⟩:∃ y,(w.alloc (.cells #[.pointer (some ⟨b,0,none⟩)] 28)).alloc (.cells #[.int .u64 E] 36)=y:=⟨_,rfl⟩
 rw [hwA] at hb hr0 hr1
 have z0:wA.cell? ⟨w.heap.size,0,none⟩=some (.pointer (some ⟨b,0,none⟩)):=(cell_of_row _ _ 0 _ _ _ hr0).trans rfl
 have z1:wA.cell? ⟨w.heap.size+1,0,none⟩=some (.int .u64 E):=(cell_of_row _ _ 0 _ _ _ hr1).trans rfl
 have HF:Hid (Calls Tryz.prog 41 #[.pointer (some ⟨w.heap.size+1,0,none⟩),.pointer (some ⟨w.heap.size,0,none⟩)] wA fun e w'=>e = .returned (.pointer (some ⟨hM.m,0,none⟩))∧Below wA.heap.size wA w'):=by
  show Calls _ _ _ _ _
  rcases hE with ⟨rfl,rfl⟩ | ⟨rfl,rfl,rfl⟩
  ·exact found_saved (hd.below hb) _ _ z1 z0
  ·exact found_pend (hd.below hb) hep _ _ z1 z0
 have HS:=Lib.hid s;have HI:=Lib.hid hS;have HM:=Lib.hid hMM;have H1:=Lib.hid h1;have HSEE:=Lib.hid hsee;have HB:=Lib.hid hb;have HWA:=Lib.hid hwA
 have hcs:wA.heap.size=w.heap.size+2:=by rw [← hwA];simp
 have hbl:b < w.heap.size:=(Array.getElem?_eq_some_iff.1 hd.row).1
 have HBL:=Lib.hid hbl;have HCS:=Lib.hid hcs;clear s hS hMM h1 hsee hd hb hr0 hr1 hwA hE hep hcs hbl
 go_enter Tryz.func14,Tryz.ntmps14
 go_wp2_with (rw [HWA.out])
 refine HF.out.mono ?_
 rintro e w2 ⟨rfl,hb2⟩
 replace z0:=cel0 hb2 z0;replace z1:=cel0 hb2 z1
 have HB2:=Lib.hid (HB.out.trans (hb2.mono HB.out.size))
 clear HF hb2;go_wp2_with fail
 refine (HSEE.out w2 HB2.out).mono ?_
 rintro e wB ⟨rfl,hb3⟩
 replace z0:=cel0 hb3 z0;replace z1:=cel0 hb3 z1
 have HB3:=Lib.hid (HB2.out.trans (hb3.mono HB2.out.size))
 have HPS:=Lib.hid (HS.out.below HB3.out)
 have HD3:=Lib.hid (HPS.out.du HI.out)
 have Z0:=Lib.hid z0;have Z1:=Lib.hid z1
 have hzl:=block_lt_of_cell z0
 have hzl1:=block_lt_of_cell z1
 have HZL:Hid (w.heap.size < wB.heap.size∧w.heap.size+1 < wB.heap.size):=⟨hzl,hzl1⟩
 have i0:Tn (fun k=>k=b) wB wB.drew:=Tn.of (Below.refl _ _).drew
 have i6:Ptys w0 wB.drew PS O:=HPS.out.below (Below.refl _ _).drew
 have i9:wB.drew.heap[b]?=some (.cells (duRow c none sv ep pd db) 63 (0,0)):=row_keep HD3.out.row (Below.refl _ _).drew
 clear z0 z1 hzl hzl1 hb3 HB2;go_wp2_with fail
 refine' reg_kill [(12,9),(15,9),(15,12)] [eqV _,eqV _,eqV _,eqV _,eqV _,eqV _,(fun v w5=>∃ h2:McH,v=Value.pointer (some ⟨h2.m,0,none⟩)∧∃ row,Ptys w0 w5 ((PS.set 1 (mcP h2 M)).set 0 (blkP b row 63)) O),eqV _,eqV _,(fun _ w5=>w5.heap[b]?=some (.cells (duRow c none (some hM.m) ep pd db) 63 (0,0))),eqV _,eqV _,(fun _ w5=>w5.heap[b]?=some (.cells (duRow c none (some hM.m) E pd db) 63 (0,0))),eqV _,eqV _,(fun _ w5=>∃ h2:McH,Ptys w0 w5 ((PS.set 1 (mcP h2 M)).set 0 (blkP b (duRow c (some h2.m) (some hM.m) E pd db) 63)) O)] [(9,fun w5 w6=>Tn (fun k=>k=b) w5 w6∧∃ row',w6.heap[b]?=some (.cells row' 63 (0,0))),(12,fun w5 w6=>Tn (fun k=>k=b) w5 w6∧∃ row',w6.heap[b]?=some (.cells row' 63 (0,0))),(15,fun w5 w6=>Tn (fun k=>k=b) w5 w6∧∃ row',w6.heap[b]?=some (.cells row' 63 (0,0)))] [(0,fun w5=>Tn (fun k=>k=b) wB w5),(1,fun w5=>Tn (fun k=>k=b) wB w5),(2,fun w5=>Tn (fun k=>k=b) wB w5),(4,fun w5=>Tn (fun k=>k=b) wB w5),(6,fun w5=>Ptys w0 w5 PS O),(9,fun w5=>w5.heap[b]?=some (.cells (duRow c none sv ep pd db) 63 (0,0))),(16,fun w5=>Tn (fun k=>k=b) wB w5)] [30,31,32,33,34,35,36,37,38,58,39,40,61,41,42,64] [[],[],[],[],[],[],[5],[0],[7],[3,8],[1],[10],[4,9,11],[2],[13],[6,12,14]] [0,1,2,3,4,5,6,7,8,9,10,11,12,13,14,15] 16 (by kernel_rfl) (by kernel_rfl) ⟨eS _,eS _,eS _,eS _,eS _,eS _,fun _ _ _ p g=>by obtain ⟨h2,e,row,q⟩:=p;exact ⟨h2,e,row,q.below g⟩,eS _,eS _,fun _ _ _ p g=>row_keep p g,eS _,eS _,fun _ _ _ p g=>row_keep p g,eS _,eS _,fun _ _ _ p g=>by obtain ⟨h2,q⟩:=p;exact ⟨h2,q.below g⟩,trivial⟩ ⟨⟨.inl (eS _),.inl (eS _),.inl (eS _),.inl (eS _),.inl (eS _),.inl (eS _),.inl (fun _ _ _ p g=>by obtain ⟨h2,e,row,q⟩:=p;obtain ⟨t,row',hr⟩:=g;exact ⟨h2,e,row',by have:=q.turn 0 (get_set (get_ne HI.out (by omega))) t hr;rw [set2] at this;exact this⟩),.inl (eS _),.inl (eS _),.inr (.inr (.inl rfl)),.inl (eS _),.inl (eS _),.inr (.inl (by kernel_rfl)),.inl (eS _),.inl (eS _),.inr (.inl (by kernel_rfl)),trivial⟩,⟨.inl (eS _),.inl (eS _),.inl (eS _),.inl (eS _),.inl (eS _),.inl (eS _),.inl (fun _ _ _ p g=>by obtain ⟨h2,e,row,q⟩:=p;obtain ⟨t,row',hr⟩:=g;exact ⟨h2,e,row',by have:=q.turn 0 (get_set (get_ne HI.out (by omega))) t hr;rw [set2] at this;exact this⟩),.inl (eS _),.inl (eS _),.inr (.inr (.inr (by kernel_rfl))),.inl (eS _),.inl (eS _),.inr (.inr (.inl rfl)),.inl (eS _),.inl (eS _),.inr (.inl (by kernel_rfl)),trivial⟩,⟨.inl (eS _),.inl (eS _),.inl (eS _),.inl (eS _),.inl (eS _),.inl (eS _),.inl (fun _ _ _ p g=>by obtain ⟨h2,e,row,q⟩:=p;obtain ⟨t,row',hr⟩:=g;exact ⟨h2,e,row',by have:=q.turn 0 (get_set (get_ne HI.out (by omega))) t hr;rw [set2] at this;exact this⟩),.inl (eS _),.inl (eS _),.inr (.inr (.inr (by kernel_rfl))),.inl (eS _),.inl (eS _),.inr (.inr (.inr (by kernel_rfl))),.inl (eS _),.inl (eS _),.inr (.inr (.inl rfl)),trivial⟩,trivial⟩ ⟨fun _ _ p g=>Tn.call p g,fun _ _ p g=>Tn.call p g,fun _ _ p g=>Tn.call p g,fun _ _ p g=>Tn.call p g,fun _ _ p g=>Ptys.below p g,fun _ _ p g=>row_keep p g,fun _ _ p g=>Tn.call p g,trivial⟩ ⟨⟨.inr (.inl (by kernel_rfl)),.inl (fun _ _ p g=>Tn.trans p g.1),.inl (fun _ _ p g=>Tn.trans p g.1),.inl (fun _ _ p g=>Tn.trans p g.1),.inr (.inl (by kernel_rfl)),.inr (.inr rfl),.inl (fun _ _ p g=>Tn.trans p g.1),trivial⟩,⟨.inr (.inl (by kernel_rfl)),.inr (.inl (by kernel_rfl)),.inl (fun _ _ p g=>Tn.trans p g.1),.inr (.inl (by kernel_rfl)),.inr (.inl (by kernel_rfl)),.inr (.inl (by kernel_rfl)),.inl (fun _ _ p g=>Tn.trans p g.1),trivial⟩,⟨.inr (.inl (by kernel_rfl)),.inr (.inl (by kernel_rfl)),.inr (.inl (by kernel_rfl)),.inr (.inl (by kernel_rfl)),.inr (.inl (by kernel_rfl)),.inr (.inl (by kernel_rfl)),.inl (fun _ _ p g=>Tn.trans p g.1),trivial⟩,trivial⟩ ⟨i0,i0,i0,i0,i6,i9,i0,trivial⟩ 49 rfl (by kernel_rfl) (by kernel_rfl) rfl rfl 16 rfl ?q3obl ?q3fin
 case q3obl=>
  refine ⟨?q3o0,?q3o1,?q3o2,?q3o3,?q3o4,?q3o5,?q3o6,?q3o7,?q3o8,?q3o9,?q3o10,?q3o11,?q3o12,?q3o13,?q3o14,?q3o15,trivial⟩
  case q3o0=>
   intro w1 hI
   replace hI:(fun w5=>Tn (fun k=>k=b) wB w5) w1:=hI
   refine t2o (by rfl) ?_;intro K hK
   have hc:=(World.cell?_of_block (a:=⟨w.heap.size,0,none⟩) (hI.block _ HZL.out.1 (fun e=>by have e2:w.heap.size=b:=e;have:=HBL.out;omega))).trans Z0.out
   go_simp;refine hK _ _ ⟨rfl,Kept.refl _,?_⟩;show _=_;simp only [gv1];rfl
  case q3o1=>
   intro w1 hI
   replace hI:(fun w5=>Tn (fun k=>k=b) wB w5) w1:=hI
   refine t2o (by rfl) ?_;intro K hK
   have hc:=(World.cell?_of_block (a:=⟨w.heap.size,0,none⟩) (hI.block _ HZL.out.1 (fun e=>by have e2:w.heap.size=b:=e;have:=HBL.out;omega))).trans Z0.out
   go_simp;refine hK _ _ ⟨rfl,Kept.refl _,?_⟩;show _=_;simp only [gv1];rfl
  case q3o2=>
   intro w1 hI
   replace hI:(fun w5=>Tn (fun k=>k=b) wB w5) w1:=hI
   refine t2o (by rfl) ?_;intro K hK
   have hc:=(World.cell?_of_block (a:=⟨w.heap.size,0,none⟩) (hI.block _ HZL.out.1 (fun e=>by have e2:w.heap.size=b:=e;have:=HBL.out;omega))).trans Z0.out
   go_simp;refine hK _ _ ⟨rfl,Kept.refl _,?_⟩;show _=_;simp only [gv1];rfl
  case q3o3 | q3o5=>
   intro w1 hI;refine t2o (by rfl) ?_;intro K hK;go_simp;refine hK _ _ ⟨rfl,Kept.refl _,?_⟩;show _=_;simp only [gv1];rfl
  case q3o4=>
   intro w1 hI
   replace hI:(fun w5=>Tn (fun k=>k=b) wB w5) w1:=hI
   refine t2o (by rfl) ?_;intro K hK
   have hc:=(World.cell?_of_block (a:=⟨w.heap.size+1,0,none⟩) (hI.block _ HZL.out.2 (fun e=>by have e2:w.heap.size+1=b:=e;have:=HBL.out;omega))).trans Z1.out
   go_simp;refine hK _ _ ⟨rfl,Kept.refl _,?_⟩;show _=_;simp only [gv1];rfl
  case q3o6=>
   intro w1 hI
   replace hI:(fun w5=>Ptys w0 w5 PS O) w1:=hI
   intro v5 h5;change _=_ at h5;subst v5;refine t2o (by rfl) ?_;intro K hK;simp only [gv2];go_simp
   refine Calls.mono ((hI:Ptys w0 w1 PS O).putTwin _ 1 HM.out H1.out) ?_
   rintro e w9 ⟨h2,rfl,q,hb9⟩
   refine hK _ _ ⟨rfl,hb9,?_⟩
   exact ⟨h2,rfl,_,by have:=q.turn 0 (get_ne HI.out (by omega)) (Tn.refl _ _) (q.row (get_ne HI.out (by omega)));exact this⟩
  case q3o7 | q3o8=>
   intro w1 hI;intro va ha;change _=_ at ha;subst va;refine t2o (by rfl) ?_;intro K hK;simp only [gv2];go_simp;refine hK _ _ ⟨rfl,Kept.refl _,?_⟩;show _=_;simp only [gv1];rfl
  case q3o9=>
   intro w1 hI
   replace hI:(fun w5=>w5.heap[b]?=some (.cells (duRow c none sv ep pd db) 63 (0,0))) w1:=hI
   intro v3 h3;change _=_ at h3;subst v3;intro v8 h8;change _=_ at h8;subst v8;refine t2o (by rfl) ?_;intro K hK;simp only [gv2]
   have hc:=cell_of_row w1 b 10 _ _ _ hI
   simp only [duRow] at hc
   have hf:=frozen_of_row w1 b 10 _ _ hI
   have hrr:=heap_setCell_same w1 b 10 _ _ (.pointer (some ⟨hM.m,0,none⟩)) hI
   go_simp
   refine hK _ _ ⟨rfl,⟨tn_set w1 b 10 _,_,hrr⟩,?_⟩
   exact hrr
  case q3o10 | q3o11=>
   intro w1 hI;intro va ha;change _=_ at ha;subst va;refine t2o (by rfl) ?_;intro K hK;simp only [gv2];go_simp;refine hK _ _ ⟨rfl,Kept.refl _,?_⟩;show _=_;simp only [gv1];rfl
  case q3o12=>
   intro w1 hI;intro v4 h4;change _=_ at h4;subst v4;intro v9 h9;intro v11 h11;change _=_ at h11;subst v11;refine t2o (by rfl) ?_;intro K hK;simp only [gv2]
   have hc:=cell_of_row w1 b 11 _ _ _ h9
   simp only [duRow] at hc
   have hf:=frozen_of_row w1 b 11 _ _ h9
   have hrr:=heap_setCell_same w1 b 11 _ _ (.int .u64 E) h9
   go_simp
   refine hK _ _ ⟨rfl,⟨tn_set w1 b 11 _,_,hrr⟩,?_⟩
   exact hrr
  case q3o13 | q3o14=>
   intro w1 hI;intro va ha;change _=_ at ha;subst va;refine t2o (by rfl) ?_;intro K hK;simp only [gv2];go_simp;refine hK _ _ ⟨rfl,Kept.refl _,?_⟩;show _=_;simp only [gv1];rfl
  case q3o15=>
   intro w1 hI;intro v6 h6
   obtain ⟨g6,rfl,r6,s6⟩:=h6
   intro v12 h12;intro v14 h14;change _=_ at h14;subst v14;refine t2o (by rfl) ?_;intro K hK;simp only [gv2]
   have hc:=cell_of_row w1 b 9 _ _ _ h12
   simp only [duRow] at hc
   have hf:=frozen_of_row w1 b 9 _ _ h12
   have hrr:=heap_setCell_same w1 b 9 _ _ (.pointer (some ⟨g6.m,0,none⟩)) h12
   go_simp
   refine hK _ _ ⟨rfl,⟨tn_set w1 b 9 _,_,hrr⟩,?_⟩
   exact ⟨g6,by have:=s6.turn 0 (get_set (get_ne HI.out (by omega))) (tn_set w1 b 9 _) hrr;rw [set2] at this;exact this⟩
 intro w5 hI
 replace hI:(fun w5=>Tn (fun k=>k=b) wB w5) w5:=hI
 intro v0 h0;replace h0:=h0 (by kernel_rfl);change _=_ at h0;subst v0;intro v1 h1;replace h1:=h1 (by kernel_rfl);change _=_ at h1;subst v1;intro v2 h2;replace h2:=h2 (by kernel_rfl);change _=_ at h2;subst v2;intro v3 h3;replace h3:=h3 (by kernel_rfl);change _=_ at h3;subst v3;intro v4 h4;replace h4:=h4 (by kernel_rfl);change _=_ at h4;subst v4;intro v5 h5;replace h5:=h5 (by kernel_rfl)
 change _=_ at h5;subst v5;intro v6 h6;replace h6:=h6 (by kernel_rfl)
 obtain ⟨g6,rfl,r6,s6⟩:=h6
 intro v7 h7;replace h7:=h7 (by kernel_rfl);change _=_ at h7;subst v7;intro v8 h8;replace h8:=h8 (by kernel_rfl);change _=_ at h8;subst v8;intro v9 _;intro v10 h10;replace h10:=h10 (by kernel_rfl);change _=_ at h10;subst v10;intro v11 h11;replace h11:=h11 (by kernel_rfl);change _=_ at h11;subst v11;intro v12 _;intro v13 h13;replace h13:=h13 (by kernel_rfl);change _=_ at h13
 subst v13;intro v14 h14;replace h14:=h14 (by kernel_rfl);change _=_ at h14;subst v14;intro v15 h15;replace h15:=h15 (by kernel_rfl)
 obtain ⟨g15,s15⟩:=h15
 simp only [Given,gv2]
 have hz0:=(World.cell?_of_block (a:=⟨w.heap.size,0,none⟩) ((hI:Tn (fun k=>k=b) wB w5).block _ HZL.out.1 (fun e=>by have e2:w.heap.size=b:=e;have:=HBL.out;omega))).trans Z0.out
 have hzl2:=block_lt_of_cell hz0
 have hgs:=get_set (x:=mcP g15 M) H1.out
 have hg0:=get_ne (x:=mcP g15 M) HI.out (show (1:Nat) ≠ 0 by omega)
 have hg1:=get_set (x:=blkP b (duRow c (some g15.m) (some hM.m) E pd db) 63) hg0
 have HG1:=Lib.hid hg1
 have hrow:=s15.row hg1
 have S15:=Lib.hid s15;have HZ2:=Lib.hid hz0
 have HZL2:Hid (w.heap.size < w5.heap.size):=hzl2
 have j0:Tn (fun k=>k=b) w5 w5.drew:=Tn.of (Below.refl _ _).drew
 have j4:w5.drew.heap[b]?=some (.cells (duRow c (some g15.m) (some hM.m) E pd db) 63 (0,0)):=row_keep hrow (Below.refl _ _).drew
 clear hz0 hzl2 hgs hg0 hg1 hrow s15 s6 hI i0 i6 i9;go_wp2_with fail
 refine' reg_kill [(7,4)] [eqV _,eqV _,eqV _,eqV _,(fun _ w6=>w6.heap[b]?=some (.cells (duRow c (some g15.m) (some hM.m) E none db) 63 (0,0))),eqV _,eqV _,(fun _ w6=>w6.heap[b]?=some (.cells (duRow c (some g15.m) (some hM.m) E none false) 63 (0,0)))] [(4,fun w5 w6=>Tn (fun k=>k=b) w5 w6∧∃ row',w6.heap[b]?=some (.cells row' 63 (0,0))),(7,fun w5 w6=>Tn (fun k=>k=b) w5 w6∧∃ row',w6.heap[b]?=some (.cells row' 63 (0,0)))] [(0,fun w6=>Tn (fun k=>k=b) w5 w6),(1,fun w6=>Tn (fun k=>k=b) w5 w6),(4,fun w6=>w6.heap[b]?=some (.cells (duRow c (some g15.m) (some hM.m) E pd db) 63 (0,0))),(8,fun w6=>Tn (fun k=>k=b) w5 w6)] [43,44,45,46,53,47,48,56] [[],[],[0],[2],[3],[1],[5],[4,6]] [0,1,2,3,4,5,6,7] 8 (by kernel_rfl) (by kernel_rfl) ⟨eS _,eS _,eS _,eS _,fun _ _ _ p g=>row_keep p g,eS _,eS _,fun _ _ _ p g=>row_keep p g,trivial⟩ ⟨⟨.inl (eS _),.inl (eS _),.inl (eS _),.inl (eS _),.inr (.inr (.inl rfl)),.inl (eS _),.inl (eS _),.inr (.inl (by kernel_rfl)),trivial⟩,⟨.inl (eS _),.inl (eS _),.inl (eS _),.inl (eS _),.inr (.inr (.inr (by kernel_rfl))),.inl (eS _),.inl (eS _),.inr (.inr (.inl rfl)),trivial⟩,trivial⟩ ⟨fun _ _ p g=>Tn.call p g,fun _ _ p g=>Tn.call p g,fun _ _ p g=>row_keep p g,fun _ _ p g=>Tn.call p g,trivial⟩ ⟨⟨.inr (.inl (by kernel_rfl)),.inl (fun _ _ p g=>Tn.trans p g.1),.inr (.inr rfl),.inl (fun _ _ p g=>Tn.trans p g.1),trivial⟩,⟨.inr (.inl (by kernel_rfl)),.inr (.inl (by kernel_rfl)),.inr (.inl (by kernel_rfl)),.inl (fun _ _ p g=>Tn.trans p g.1),trivial⟩,trivial⟩ ⟨j0,j0,j4,j0,trivial⟩ 49 rfl (by kernel_rfl) (by kernel_rfl) rfl rfl 8 rfl ?q4obl ?q4fin
 case q4obl=>
  refine ⟨?q4o0,?q4o1,?q4o2,?q4o3,?q4o4,?q4o5,?q4o6,?q4o7,trivial⟩
  case q4o0=>
   intro w1 hI
   replace hI:(fun w6=>Tn (fun k=>k=b) w5 w6) w1:=hI
   refine t2o (by rfl) ?_;intro K hK
   have hc:=(World.cell?_of_block (a:=⟨w.heap.size,0,none⟩) (hI.block _ HZL2.out (fun e=>by have e2:w.heap.size=b:=e;have:=HBL.out;omega))).trans HZ2.out
   go_simp;refine hK _ _ ⟨rfl,Kept.refl _,?_⟩;show _=_;simp only [gv1];rfl
  case q4o1=>
   intro w1 hI
   replace hI:(fun w6=>Tn (fun k=>k=b) w5 w6) w1:=hI
   refine t2o (by rfl) ?_;intro K hK
   have hc:=(World.cell?_of_block (a:=⟨w.heap.size,0,none⟩) (hI.block _ HZL2.out (fun e=>by have e2:w.heap.size=b:=e;have:=HBL.out;omega))).trans HZ2.out
   go_simp;refine hK _ _ ⟨rfl,Kept.refl _,?_⟩;show _=_;simp only [gv1];rfl
  case q4o2 | q4o3=>
   intro w1 hI;intro va ha;change _=_ at ha;subst va;refine t2o (by rfl) ?_;intro K hK;simp only [gv2];go_simp;refine hK _ _ ⟨rfl,Kept.refl _,?_⟩;show _=_;simp only [gv1];rfl
  case q4o4=>
   intro w1 hI
   replace hI:(fun w6=>w6.heap[b]?=some (.cells (duRow c (some g15.m) (some hM.m) E pd db) 63 (0,0))) w1:=hI
   intro v3 h3;change _=_ at h3;subst v3;refine t2o (by rfl) ?_;intro K hK;simp only [gv2]
   have hc:=cell_of_row w1 b 12 _ _ _ hI
   simp only [duRow] at hc
   have hf:=frozen_of_row w1 b 12 _ _ hI
   have hrr:=heap_setCell_same w1 b 12 _ _ (.pointer none) hI
   go_simp
   refine hK _ _ ⟨rfl,⟨tn_set w1 b 12 _,_,hrr⟩,?_⟩
   exact hrr
  case q4o5 | q4o6=>
   intro w1 hI;intro va ha;change _=_ at ha;subst va;refine t2o (by rfl) ?_;intro K hK;simp only [gv2];go_simp;refine hK _ _ ⟨rfl,Kept.refl _,?_⟩;show _=_;simp only [gv1];rfl
  case q4o7=>
   intro w1 hI;intro v4 h4;intro v6 h6;change _=_ at h6;subst v6;refine t2o (by rfl) ?_;intro K hK;simp only [gv2]
   have hc:=cell_of_row w1 b 13 _ _ _ h4
   simp only [duRow] at hc
   have hf:=frozen_of_row w1 b 13 _ _ h4
   have hrr:=heap_setCell_same w1 b 13 _ _ (.bool false) h4
   go_simp
   refine hK _ _ ⟨rfl,⟨tn_set w1 b 13 _,_,hrr⟩,?_⟩
   exact hrr
 intro w7 hI
 replace hI:(fun w6=>Tn (fun k=>k=b) w5 w6) w7:=hI
 intro v0 h0;replace h0:=h0 (by kernel_rfl);change _=_ at h0;subst v0;intro v1 h1;replace h1:=h1 (by kernel_rfl);change _=_ at h1;subst v1;intro v2 h2;replace h2:=h2 (by kernel_rfl);change _=_ at h2;subst v2;intro v3 h3;replace h3:=h3 (by kernel_rfl);change _=_ at h3;subst v3;intro v4 _;intro v5 h5;replace h5:=h5 (by kernel_rfl);change _=_ at h5;subst v5;intro v6 h6
 replace h6:=h6 (by kernel_rfl);change _=_ at h6;subst v6;intro v7 h7;replace h7:=h7 (by kernel_rfl)
 simp only [Given,gv2]
 have hT:Tn (fun k=>k=b) w5 w7:=hI
 have hfin:=S15.out.turn 0 HG1.out hT h7
 rw [set2] at hfin;have HFIN:=Lib.hid hfin;clear hfin hT hI h7;go_wp2_with fail
 go_ret
 exact ⟨g15,rfl,HFIN.out⟩
end
section
variable {w0 w:World} {PS:List Pty} {O:List OpsR} {b:Nat} {c:Cf} {sv pd:Option Nat} {ep:Int} {db:Bool}
theorem live_any (s:Ptys w0 w PS O) {hL:McH} {M:Mc} {P3:Pty} (hS:PS[0]?=some (duP b c (some hL.m) sv ep pd db)) (h1:PS[1]?=some (mcP hL M)) (h3:PS[3]?=some P3) :
  Calls Tryz.prog 21 #[.pointer (some ⟨b,0,none⟩)] w fun e w'=>∃ hP:McH,e = .returned (.pointer (some ⟨hP.m,0,none⟩))∧Below w.heap.size w w':=by
 have hd:=s.du hS
 obtain ⟨c9,_,_,_,_⟩:=hd.cells
 simp only [ov] at c9
 have HC1:Hid (Calls Tryz.prog 34 #[.pointer (some ⟨b,0,none⟩)] w fun e w'=>e = .returned (.bool false)∧w=w'):=down_any hd
 have HC3:=Lib.hid (s.putTwin 1 3 h1 h3)
 clear s hd hS
 go_enter Tryz.func21,Tryz.ntmps21
 go_wp2_with (first | (go_at_call 34;refine HC1.out.mono ?_;rintro e w' ⟨rfl,rfl⟩) | (go_at_call 24;refine HC3.out.mono ?_;rintro e w2 ⟨hP,rfl,hQ,hB⟩))
 go_ret
 exact ⟨hP,rfl,hB⟩
end
def smA:List ActP→Nat
 | []=>0
 | A :: r=>A.ad.length+A.al.length+smA r
theorem smA_append (L M:List ActP):smA (L ++ M)=smA L+smA M:=by
 induction L with
 | nil=>simp [smA]
 | cons A r ih=>rw [List.cons_append,smA,smA,ih];omega
theorem smA_take (L:List ActP) (k:Nat):smA (L.take k)≤smA L:=by
 conv=>rhs;rw [← List.take_append_drop k L,smA_append]
 omega
theorem smA_le (L:List ActP):smA L≤sumAct L:=by
 induction L with
 | nil=>exact Nat.le_refl _
 | cons A r ih=>rw [smA,sumAct,bulkAct];omega
theorem ActAt.below {w w':World} {b off:Nat} {A:ActP} (h:ActAt w b off A) (k:Below w.heap.size w w'):ActAt w' b off A:=by
 obtain ⟨a6,n6,c6,a9,n9,c9,a10,n10,c10,⟨y0,y1,y2,y3,y4,y5,y6,y7,y8,y9,y10,y11,y12,y13,y14,y15,y16⟩,r1,r2,r3⟩:=h.ex
 exact ⟨⟨a6,n6,c6,a9,n9,c9,a10,n10,c10,⟨cel0 k y0,cel0 k y1,cel0 k y2,cel0 k y3,cel0 k y4,cel0 k y5,cel0 k y6,cel0 k y7,cel0 k y8,cel0 k y9,cel0 k y10,cel0 k y11,cel0 k y12,cel0 k y13,cel0 k y14,cel0 k y15,cel0 k y16⟩,r1.below k,r2.below k,r3.below k⟩,h.wf⟩
theorem ActsAt.below {w w':World} {a:Option Addr} {n:Nat} {L:List ActP} (h:ActsAt w a n L) (k:Below w.heap.size w w'):ActsAt w' a n L:=
 ⟨h.len,fun i A hA=>by obtain ⟨b,o,e,ho⟩:=h.at_ i A hA;exact ⟨b,o,e,ho.below k⟩⟩
set_option maxHeartbeats 2000000 in
theorem few25_any (a:Option Addr) (n c:Nat) (L:List ActP) (w:World) (h:ActsAt w a n L) (hn:n≤1048576) (hs:sumAct L≤1048576) :
  Calls Tryz.prog 5 #[.slice a n c] w fun e w'=>∃ x,e = .returned (.bool x)∧(x=true→n≤120)∧Below w.heap.size w w':=by
 have H:=Lib.hid h
 have hln:=h.len
 have HSM:Hid (smA L≤1048576):=Nat.le_trans (smA_le L) hs
 have HSA:=Lib.hid hs;clear h hs
 go_enter Tryz.func5,Tryz.ntmps5
 go_wp2
 go_loopw [3,4] (fun s i wr=>∃ k:Nat,k≤n∧i = .int .i64 k∧s = .int .i64 (smA (L.take k):Nat)∧Hid (Below w.heap.size w wr)) (fun _ i _=>n - (intOf i).toNat)
 case atStart=>exact ⟨0,by omega,rfl,by simp [smA],Below.refl _ _⟩
 case round=>
  obtain ⟨k,hk,rfl,rfl,HB⟩:=hrel
  by_cases hkn:k < n
  ·have dk:decide ((k:Int) < (n:Int))=true:=decide_eq_true (by omega)
   obtain ⟨A,hA⟩:∃ A,L[k]?=some A:=⟨_,List.getElem?_eq_getElem (by omega)⟩
   obtain ⟨b,o,rfl,hat⟩:=(H.out.below HB.out).at_ k A hA
   have HAT:=Lib.hid hat
   obtain ⟨a6,n6,c6,a9,n9,c9,a10,n10,c10,⟨y0,y1,y2,y3,y4,y5,y6,y7,y8,y9,y10,y11,y12,y13,y14,y15,y16⟩,r1,r2,r3⟩:=hat.ex
   have h9:=r2.len
   have h10:=r3.len
   have htk:L.take (k+1)=L.take k ++ [A]:=by rw [List.take_add_one,hA];rfl
   have hsum:smA (L.take (k+1))=smA (L.take k)+(n9+n10):=by rw [htk,smA_append];simp [smA,h9,h10]
   have hle:=smA_take L (k+1)
   have R1:=Lib.hid r1
   have hbn:Below wr.heap.size wr (wr.alloc (.cells #[.int .i64 A.o.kind,.int .i64 A.o.pid,.int .i64 A.o.at_,.int .i64 A.o.n,.int .i64 A.o.prot,.slice a6 n6 c6] 39)):=(Below.refl _ _).alloc (Nat.le_refl _) _
   have hnew:=heap_alloc_new wr (.cells #[.int .i64 A.o.kind,.int .i64 A.o.pid,.int .i64 A.o.at_,.int .i64 A.o.n,.int .i64 A.o.prot,.slice a6 n6 c6] 39)
   clear r1 r2 r3 hat;go_wp2_with fail
   obtain ⟨wN,hwN⟩:∃ y,wr.alloc (.cells #[.int .i64 A.o.kind,.int .i64 A.o.pid,.int .i64 A.o.at_,.int .i64 A.o.n,.int .i64 A.o.prot,.slice a6 n6 c6] 39)=y:=⟨_,rfl⟩
   rw [hwN] at hbn hnew ⊢
   obtain ⟨z0,z1,z2,z3,z4,z5⟩:=cells6 hnew
   have hops:OpsAt wN (some ⟨wr.heap.size,0,none⟩) 1 [A.o]:=⟨rfl,fun i B hB=>by
    cases i with
    | zero=>
     have e:A.o=B:=by simpa using hB
     subst e
     exact ⟨_,_,rfl,⟨a6,n6,c6,z0,z1,z2,z3,z4,z5,R1.out.below hbn⟩,HAT.out.wf.2.1⟩
    | succ i=>simp at hB⟩
   have hso:sumOp [A.o]≤2000000:=by
    have h1:A ∈ L:=List.mem_of_getElem? hA
    have h2:=R1.out.len
    have h3:∀ M:List ActP,A ∈ M→A.o.data.length≤sumAct M:=fun M hM=>by
     induction M with
     | nil=>cases hM
     | cons B r ih=>
      rw [sumAct,bulkAct]
      rcases List.mem_cons.1 hM with e | e
      ·subst e;omega
      ·have:=ih e;omega
    have h4:=h3 L h1
    have h5:=HSA.out
    simp only [sumOp]
    omega
   refine (few_any _ 1 1 [A.o] wN hops (by omega) hso).mono ?_
   rintro e w' ⟨rfl,rfl⟩
   obtain ⟨FB,hFB⟩:∃ x,fewB [A.o]=x:=⟨_,rfl⟩
   rw [hFB]
   have HBN:=Lib.hid (HB.out.trans (hbn.mono HB.out.size))
   have hw1:IntKind.i64.wrap ((smA (L.take k):Int)+(n9:Int))=((smA (L.take k)+n9:Nat):Int):=by have:=HSM.out;rw [IntKind.wrap_i64];omega
   have hw2:IntKind.i64.wrap (((smA (L.take k)+n9:Nat):Int)+(n10:Int))=((smA (L.take (k+1)):Nat):Int):=by have:=HSM.out;rw [IntKind.wrap_i64];omega
   have hw3:wrap64 ((smA (L.take k):Int)+(n9:Int)+(n10:Int))=((smA (L.take (k+1)):Nat):Int):=by have:=HSM.out;unfold wrap64;omega
   have HW3:=Lib.hid hw3;replace y9:=cel0 hbn y9;replace y10:=cel0 hbn y10;clear hops hso hFB hwN hnew z0 z1 z2 z3 z4 z5 y0 y1 y2 y3 y4 y5 y6 y7 y8 y11 y12 y13 y14 y15 y16 htk hsum hle hbn hw3
   cases FB with
   | false=>
    go_wp2_with fail
    go_ret
    exact ⟨_,rfl,fun e=>(by cases e),HBN.out⟩
   | true=>
    go_wp2_with fail;go_quiet (fail);go_wp2_with fail
    go_roundw
    case rel=>exact ⟨k+1,by omega,by go_num,by rw [HW3.out],belowNp HBN.out _⟩
    case measure=>simp [intOf] <;> omega
  ·have dk:decide ((k:Int) < (n:Int))=false:=decide_eq_false (by omega)
   by_cases hn2:n≤120
   ·have dn:decide ((n:Int)≤120)=true:=decide_eq_true (by omega)
    obtain ⟨Z,hZ⟩:∃ x,decide (((smA (L.take k):Nat):Int)≤16384)=x:=⟨_,rfl⟩
    go_wp2_with fail
    go_ret
    exact ⟨_,rfl,fun _=>hn2,HB.out⟩
   ·have dn:decide ((n:Int)≤120)=false:=decide_eq_false (by omega)
    go_wp2_with fail
    go_ret
    exact ⟨_,rfl,fun e=>(by cases e),HB.out⟩
end Go.Proofs.YtoepnbfifjgpfaaGreat
