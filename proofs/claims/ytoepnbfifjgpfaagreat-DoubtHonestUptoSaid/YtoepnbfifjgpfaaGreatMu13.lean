/- The document's regions: with. The document's regions: Find, All, Unmap, Map, Protect. The document's regions: Unmap, Map, Protect, Pages. The document's regions: Pieces. region: Right; the document's. The document's regions: Clean. The law's Same, known. What Map, Protect, Unmap, Clean make, the program's and the document's alike. Numbers that are taken, as a row of 64 bits: plain laws. No program in sight. -/
import Derived.Test.YtoepnbfifjgpfaaGreatMu12
import Derived.WalkArith
import Derived.Test.YtoepnbfifjgpfaaGreatMu3
import Derived.Test.YtoepnbfifjgpfaaGreatMu10
import Derived.Test.YtoepnbfifjgpfaaGreatMu1
namespace Go.Proofs.YtoepnbfifjgpfaaGreat
set_option maxRecDepth 100000
open Go.RowKit
theorem insU_le (x:Int):∀ l:List Int,(insU x l).length≤l.length+1
 | []=>by simp [insU]
 | c :: l=>by
  have h:=insU_le x l
  unfold insU
  split
  ·simp;omega
  ·split <;> simp
theorem cutsA_le:∀ (all out:List Int),(all.foldl (fun out x=>insU x out) out).length≤out.length+all.length
 | [],out=>by simp
 | x :: all,out=>by
  have h1:=cutsA_le all (insU x out)
  have h2:=insU_le x out
  rw [List.foldl_cons,List.length_cons]
  omega
theorem cutsL_le (L:List Rg) (more:List Int):(cutsL L more).length≤more.length+2 * L.length:=by
 have h:=cutsA_le (more ++ endsL L) []
 rw [List.length_append,endsL_len] at h
 unfold cutsL cutsA
 rw [List.length_nil] at h
 omega
theorem pf_wf:∀ {L:List Rg} (x:Int),(∀ r ∈ L,r.Wf)→(Lit.int .i64 (pf L x)).wf=true
 | [],x,_=>by show (Lit.int .i64 (-1)).wf=true;decide
 | r :: L,x,h=>by
  unfold pf
  split
  ·exact Go.WalkArith.wf_i64 (h r (List.mem_cons_self ..)).p
  ·exact pf_wf x (fun s hs=>h s (List.mem_cons_of_mem _ hs))
theorem map_take_one (f:Int→Int) {A:List Int} {k:Nat} {x:Int} (hx:A[k]?=some x):(A.take (k+1)).map f=(A.take k).map f ++ [f x]:=by
 rw [List.take_add_one,hx,List.map_append];rfl
set_option linter.unusedSimpArgs false in
set_option linter.unusedVariables false in
set_option maxHeartbeats 2000000 in
theorem with_any (a:Option Addr) (n c:Nat) (L:List Rg) (lo hi how:Int) (w:World) (h:RdS Rg.cells 3 w a n c L) (hn:n≤1000) (hw:∀ r ∈ L,r.Wf) (hlo:(Lit.int .i64 lo).wf=true) (hhi:(Lit.int .i64 hi).wf=true) (hhow:(Lit.int .i64 how).wf=true) :
  Calls Tryz.prog 88 #[.slice a n c,.int .i64 lo,.int .i64 hi,.int .i64 how] w (GivesRgs (withL L lo hi how) w):=by
 have H:=Lib.hid h;have HW:=Lib.hid hw;have HLO:=Lib.hid hlo;have HHI:=Lib.hid hhi;have HHOW:=Lib.hid hhow;clear h hw hlo hhi hhow
 have hba:=below_a w (.cells #[.int .i64 lo,.int .i64 hi] 3)
 have hrow:=heap_alloc_new w (.cells #[.int .i64 lo,.int .i64 hi] 3)
 have HC:Hid (∀ w1,w.alloc (.cells #[.int .i64 lo,.int .i64 hi] 3)=w1→Calls Tryz.prog 97 #[.slice a n c,.slice (some ⟨w.heap.size,0,none⟩) 2 2] w1 (GivesInts (cutsL L [lo,hi]) w1)):=by
  intro w1 hw1;rw [hw1] at hba hrow
  exact cuts_any a n c L _ _ _ [lo,hi] w1 (H.out.below hba) hn HW.out (rd_row2 hrow HLO.out HHI.out) (Nat.le_refl _)
 go_enter Tryz.func88,Tryz.ntmps88
 go_wp2_with (go_at_call 97;refine (HC.out _ rfl).mono ?_;rintro e w1 ⟨v1,rfl,ho1,hb1⟩)
 have hl1:=cutsL_le L [lo,hi]
 have hmem:(cutsL L [lo,hi]).length ≠ 0:=fun e=>by
  have:=(cutsL_mem (l:=L) (more:=[lo,hi]) (c:=lo)).2 (.inl (by simp))
  rw [List.length_eq_zero_iff.1 e] at this
  cases this
 obtain ⟨A,hA⟩:∃ A,cutsL L [lo,hi]=A:=⟨_,rfl⟩
 have HGOAL:Hid (withL L lo hi how=madeL (withF L lo hi how) A):=by show _=_;rw [← hA];rfl
 rw [hA] at ho1 hl1 hmem
 obtain ⟨q,hq⟩:∃ q,A.length=q:=⟨_,rfl⟩
 obtain ⟨aq,cq,rfl⟩:=ho1.shapeN q hq
 have O1:=Lib.hid ho1
 have B1:Hid (Below w.heap.size w w1):=Below.call (below_a w _) hb1
 have HLL:=H.out.len
 have hq0:q ≠ 0:=by omega
 have hqb:q≤2002:=by simp at hl1;omega
 have HQ:=Lib.hid hq
 have HR1:Hid (RdS Rg.cells 3 w1 a n c L):=H.out.below B1.out
 obtain ⟨F,hF⟩:∃ F,withF L lo hi how=F:=⟨_,rfl⟩
 rw [hF] at HGOAL;have HF:=Lib.hid hF;clear hba hrow HC ho1 hb1 hl1 hmem hA hq HLL hF
 go_loopw [10,11] (fun v i wr=>∃ k:Nat,k+1≤q∧i = .int .i64 k∧Hid (Owns .i64 3 wr w1.heap.size v ((A.take k).map F)∧Below w1.heap.size w1 wr)) (fun _ i _=>q - (intOf i).toNat)
 case atStart=>exact ⟨0,by omega,rfl,Owns.nil _ _ _ _,Below.refl _ _⟩
 case round=>
  obtain ⟨k,hk,rfl,hh⟩:=hrel
  obtain ⟨h1,h2⟩:=hh.out
  have X:=Lib.hid h1;have B:=Lib.hid h2;clear hh h1 h2
  have hk1w:IntKind.i64.wrap ((k:Int)+1)=(k:Int)+1:=IntWalk.i64_in _ (by omega)
  by_cases hkn:k+1 < q
  ·have hkn0:k < q:=by omega
   have hkci:decide ((k:Int)+1 < (q:Int))=true:=decide_eq_true (by omega)
   have hl:=HQ.out
   obtain ⟨x,hx⟩:∃ x,A[k]?=some x:=⟨A[k],List.getElem?_eq_getElem (by omega)⟩
   obtain ⟨g,o,ea,c0⟩:=((O1.out.rd).below B.out).cell k (by omega)
   subst ea
   rw [show nth A k=x by unfold nth;rw [List.getD_eq_getElem?_getD,hx];rfl] at c0
   have HE:Hid ((A.take (k+1)).map F=(A.take k).map F ++ [F x]):=map_take_one F hx
   have hjl:((A.take k).map F).length≤2002:=by simp;omega
   have HJL:=Lib.hid hjl
   by_cases hin:lo≤x∧x < hi
   ·have hi1:decide (lo≤x)=true:=decide_eq_true hin.1
    have hi2:decide (x < hi)=true:=decide_eq_true hin.2
    have HFX:Hid (F x=how):=by show _=_;rw [← HF.out];unfold withF;rw [if_pos hin]
    clear hx hl hin hjl
    go_wp2_with (at_builtin;refine app_one intT intI (by decide) rfl (.tmp 38) (.tmp 40) rfl _ w1.heap.size _ ((A.take k).map F) rfl X.out how rfl HHOW.out (by have:=HJL.out;omega) B.out.size ?_;intro v2 w2 ho2 hg2)
    go_roundw
    case rel=>
     refine ⟨k+1,by omega,by go_num,?_,B.out.trans (hg2.below B.out.size (fun y e=>(X.out.at_base y e).1))⟩
     rw [HE.out,HFX.out]
     exact ho2
    case measure=>simp [intOf] <;> omega
   ·have HFX:Hid (F x=pf L x):=by show _=_;rw [← HF.out];unfold withF;rw [if_neg hin]
    have HPW:Hid ((Lit.int .i64 (pf L x)).wf=true):=pf_wf x HW.out
    have HPC:Hid (∀ w2,w2=wr→Calls Tryz.prog 98 #[.slice a n c,.int .i64 x] w2 fun e w'=>e = .returned (.int .i64 (pf L x))∧w2=w'):=fun w2 e=>refprot_any a n c L x w2 (by rw [e];exact HR1.out.below B.out) hn
    obtain ⟨px,hpx⟩:∃ px,pf L x=px:=⟨_,rfl⟩
    rw [hpx] at HFX HPW HPC;clear hx hl hjl hpx
    by_cases hi1:lo≤x
    ·have hi2:decide (x < hi)=false:=decide_eq_false (fun e=>hin ⟨hi1,e⟩)
     have hi1:decide (lo≤x)=true:=decide_eq_true hi1
     clear hin
     go_wp2_with (first | (go_at_call 98;refine (HPC.out _ rfl).mono ?_;rintro e w' ⟨rfl,rfl⟩) | (at_builtin;refine app_one intT intI (by decide) rfl (.tmp 42) (.tmp 49) rfl _ w1.heap.size _ ((A.take k).map F) rfl X.out px rfl HPW.out (by have:=HJL.out;omega) B.out.size ?_;intro v2 w2 ho2 hg2))
     go_roundw
     case rel=>
      refine ⟨k+1,by omega,by go_num,?_,B.out.trans (hg2.below B.out.size (fun y e=>(X.out.at_base y e).1))⟩
      rw [HE.out,HFX.out]
      exact ho2
     case measure=>simp [intOf] <;> omega
    ·have hi1:decide (lo≤x)=false:=decide_eq_false hi1
     clear hin
     go_wp2_with (first | (go_at_call 98;refine (HPC.out _ rfl).mono ?_;rintro e w' ⟨rfl,rfl⟩) | (at_builtin;refine app_one intT intI (by decide) rfl (.tmp 42) (.tmp 49) rfl _ w1.heap.size _ ((A.take k).map F) rfl X.out px rfl HPW.out (by have:=HJL.out;omega) B.out.size ?_;intro v2 w2 ho2 hg2))
     go_roundw
     case rel=>
      refine ⟨k+1,by omega,by go_num,?_,B.out.trans (hg2.below B.out.size (fun y e=>(X.out.at_base y e).1))⟩
      rw [HE.out,HFX.out]
      exact ho2
     case measure=>simp [intOf] <;> omega
  ·obtain rfl:q=k+1:=by omega
   have hkci:decide ((k:Int)+1 < ((k+1:Nat):Int))=false:=decide_eq_false (by omega)
   have hl:=HQ.out
   have e:A.take k=A.dropLast:=by rw [List.dropLast_eq_take,hl,Nat.add_sub_cancel]
   rw [e] at X
   have hpl:(A.dropLast.map F).length=k:=by simp [hl]
   obtain ⟨ap,cp,rfl⟩:=X.out.shapeN k hpl
   have HM:Hid (∀ w2,w2=wr→Calls Tryz.prog 99 #[.slice aq (k+1) cq,.slice ap k cp] w2 (GivesRgs (madeL F A) w2)):=fun w2 e=>by
    subst e
    exact made_any aq (k+1) cq A ap k cp F w2 ((O1.out.rd).below B.out) X.out.rd (by omega)
   clear hl e hpl
   go_wp2_with (go_at_call 99;refine (HM.out _ rfl).mono ?_;rintro e w4 ⟨v4,rfl,ho4,hb4⟩)
   go_ret
   rw [HGOAL.out]
   have hb:Below w.heap.size w wr:=Below.call B1.out B.out
   exact ⟨_,rfl,ho4.mono hb.size,Below.call hb hb4⟩
open Go.RowKit Go.Shelf Go.Proofs
theorem strict_last:∀ {l:List Int} {x z:Int},Strict (l ++ [z])→x ∈ l ++ [z]→x≤z
 | [],x,z,_,h=>by simp at h;omega
 | a :: l,x,z,h,hx=>by
  rw [List.cons_append] at h hx
  rcases List.mem_cons.1 hx with rfl | hx
  ·have:=h.1 z (by simp)
   omega
  ·exact strict_last h.2 hx
/-- What is asked between two cuts answers for all of them: the last lies not below hi. -/
theorem all_drop {L:List Rg} {lo hi:Int} {ok:Int→Bool} {A:List Int} (hA:cutsL L [lo,hi]=A) (h:A.dropLast.all (askL L lo hi ok)=true):A.all (askL L lo hi ok)=true:=by
 rcases List.eq_nil_or_concat A with e | ⟨l,z,e⟩
 ·rw [e];rfl
 ·rw [List.concat_eq_append] at e
  subst e;rw [List.dropLast_concat] at h;rw [List.all_append,h,Bool.true_and]
  have hz:hi≤z:=strict_last (by rw [← hA];exact cutsL_strict _ _) (by rw [← hA];exact cutsL_mem.2 (.inl (by simp)))
  show (askL L lo hi ok z && true)=true
  unfold askL
  rw [decide_eq_true hz]
  simp
theorem all_at {ok:Int→Bool} {A:List Int} {k:Nat} {x:Int} (hx:A[k]?=some x) (h:ok x=false):A.all ok=false:=by
 rw [List.all_eq_false]
 exact ⟨x,List.mem_of_getElem? hx,by simp [h]⟩
theorem rg_take_all {ok:Int→Bool} {A:List Int} {k:Nat} {x:Int} (hx:A[k]?=some x) (h0:(A.take k).all ok=true) (h:ok x=true):(A.take (k+1)).all ok=true:=by
 rw [List.take_add_one,hx,List.all_append,h0]
 simp [h]
set_option linter.unusedSimpArgs false in
set_option linter.unusedVariables false in
set_option maxHeartbeats 2000000 in
theorem refall_any (a:Option Addr) (n c:Nat) (L:List Rg) (lo hi ways:Int) (w:World) (h:RdS Rg.cells 3 w a n c L) (hn:n≤1000) (hw:∀ r ∈ L,r.Wf) (hlo:(Lit.int .i64 lo).wf=true) (hhi:(Lit.int .i64 hi).wf=true) :
  Calls Tryz.prog 87 #[.slice a n c,.int .i64 lo,.int .i64 hi,.int .i64 ways] w fun e w'=>e = .returned (.bool (refAll L lo hi (okW ways)))∧Below w.heap.size w w':=by
 by_cases h0:hi≤lo
 ·have HG:Hid (refAll L lo hi (okW ways)=true):=by show _=_;unfold refAll;rw [if_pos h0]
  go_enter Tryz.func87,Tryz.ntmps87
  go_wp2
  go_ret
  rw [HG.out]
  exact ⟨rfl,Below.refl _ _⟩
 have H:=Lib.hid h;have HW:=Lib.hid hw;have HLO:=Lib.hid hlo;have HHI:=Lib.hid hhi;clear h hw hlo hhi
 have hba:=below_a w (.cells #[.int .i64 lo,.int .i64 hi] 3)
 have hrow:=heap_alloc_new w (.cells #[.int .i64 lo,.int .i64 hi] 3)
 have HC:Hid (∀ w1,w.alloc (.cells #[.int .i64 lo,.int .i64 hi] 3)=w1→Calls Tryz.prog 97 #[.slice a n c,.slice (some ⟨w.heap.size,0,none⟩) 2 2] w1 (GivesInts (cutsL L [lo,hi]) w1)):=by
  intro w1 hw1;rw [hw1] at hba hrow
  exact cuts_any a n c L _ _ _ [lo,hi] w1 (H.out.below hba) hn HW.out (rd_row2 hrow HLO.out HHI.out) (Nat.le_refl _)
 go_enter Tryz.func87,Tryz.ntmps87
 go_wp2_with (go_at_call 97;refine (HC.out _ rfl).mono ?_;rintro e w1 ⟨v1,rfl,ho1,hb1⟩)
 have hl1:=cutsL_le L [lo,hi]
 have hmem:(cutsL L [lo,hi]).length ≠ 0:=fun e=>by
  have:=(cutsL_mem (l:=L) (more:=[lo,hi]) (c:=lo)).2 (.inl (by simp))
  rw [List.length_eq_zero_iff.1 e] at this
  cases this
 obtain ⟨A,hA⟩:∃ A,cutsL L [lo,hi]=A:=⟨_,rfl⟩
 have HA:=Lib.hid hA
 obtain ⟨f,hf⟩:∃ f,askL L lo hi (okW ways)=f:=⟨_,rfl⟩
 have HGOAL:Hid (refAll L lo hi (okW ways)=A.all f):=by show _=_;unfold refAll;rw [if_neg (by omega),hA,hf]
 have HFF:=Lib.hid hf;rw [hA] at ho1 hl1 hmem
 obtain ⟨q,hq⟩:∃ q,A.length=q:=⟨_,rfl⟩
 obtain ⟨aq,cq,rfl⟩:=ho1.shapeN q hq
 have O1:=Lib.hid ho1
 have B1:Hid (Below w.heap.size w w1):=Below.call (below_a w _) hb1
 have HLL:=H.out.len
 have hq0:q ≠ 0:=by omega
 have hqb:q≤2002:=by simp at hl1;omega
 have HQ:=Lib.hid hq
 have HR1:Hid (RdS Rg.cells 3 w1 a n c L):=H.out.below B1.out
 clear hba hrow HC ho1 hb1 hl1 hmem hA hq HLL hf
 go_loop [10] (fun i=>∃ k:Nat,k+1≤q∧i = .int .i64 k∧Hid ((A.take k).all f=true)) (fun i=>q - (intOf i).toNat)
 case atStart=>exact ⟨0,by omega,rfl,rfl⟩
 case round=>
  obtain ⟨k,hk,rfl,X⟩:=hrel
  have hk1w:IntKind.i64.wrap ((k:Int)+1)=(k:Int)+1:=IntWalk.i64_in _ (by omega)
  by_cases hkn:k+1 < q
  ·have hkn0:k < q:=by omega
   have hkci:decide ((k:Int)+1 < (q:Int))=true:=decide_eq_true (by omega)
   have hl:=HQ.out
   obtain ⟨x,hx⟩:∃ x,A[k]?=some x:=⟨A[k],List.getElem?_eq_getElem (by omega)⟩
   obtain ⟨g,o,ea,c0⟩:=O1.out.rd.cell k (by omega)
   subst ea
   rw [show nth A k=x by unfold nth;rw [List.getD_eq_getElem?_getD,hx];rfl] at c0
   have HX:=Lib.hid hx
   have HPC:Hid (∀ w2,w2=w1→Calls Tryz.prog 98 #[.slice a n c,.int .i64 x] w2 fun e w'=>e = .returned (.int .i64 (pf L x))∧w2=w'):=fun w2 e=>refprot_any a n c L x w2 (by rw [e];exact HR1.out) hn
   have HASK:Hid (f x=(decide (x < lo) || (decide (hi≤x) || (!decide (pf L x = -1) && okW ways (pf L x))))):=by show _=_;rw [← HFF.out];rfl
   obtain ⟨px,hpx⟩:∃ px,pf L x=px:=⟨_,rfl⟩
   rw [hpx] at HPC HASK;clear hx hl hpx
   by_cases x1:x < lo
   ·have HY:Hid (f x=true):=by show _=_;rw [HASK.out,decide_eq_true x1];rfl
    have x1:decide (x < lo)=true:=decide_eq_true x1
    go_wp2
    go_round
    case rel=>exact ⟨k+1,by omega,by go_num,rg_take_all HX.out X.out HY.out⟩
    case measure=>simp [intOf] <;> omega
   by_cases x2:hi≤x
   ·have HY:Hid (f x=true):=by show _=_;rw [HASK.out,decide_eq_true x2];simp
    have x1:decide (x < lo)=false:=decide_eq_false x1
    have x2:decide (hi≤x)=true:=decide_eq_true x2
    go_wp2
    go_round
    case rel=>exact ⟨k+1,by omega,by go_num,rg_take_all HX.out X.out HY.out⟩
    case measure=>simp [intOf] <;> omega
   rw [decide_eq_false x1,decide_eq_false x2,Bool.false_or,Bool.false_or] at HASK
   have x1:decide (x < lo)=false:=decide_eq_false x1
   have x2:decide (hi≤x)=false:=decide_eq_false x2
   by_cases x3:px = -1
   ·have HN:Hid (A.all f=false):=all_at HX.out (by rw [HASK.out,x3];rfl)
    subst x3
    go_wp2_with (go_at_call 98;refine (HPC.out _ rfl).mono ?_;rintro e w' ⟨rfl,rfl⟩)
    go_ret
    rw [HGOAL.out,HN.out]
    exact ⟨rfl,B1.out⟩
   have d3:(px == -1)=false:=by simpa using x3
   rw [decide_eq_false x3,Bool.not_false,Bool.true_and] at HASK;clear x3
   by_cases x4:bits .and .i64 px ways=ways
   ·have HY:Hid (f x=true):=by show _=_;rw [HASK.out];unfold okW;rw [decide_eq_true x4]
    go_wp2_with (go_at_call 98;refine (HPC.out _ rfl).mono ?_;rintro e w' ⟨rfl,rfl⟩)
    go_round
    case rel=>exact ⟨k+1,by omega,by go_num,rg_take_all HX.out X.out HY.out⟩
    case measure=>simp [intOf] <;> omega
   ·have HN:Hid (A.all f=false):=all_at HX.out (by rw [HASK.out];unfold okW;rw [decide_eq_false x4])
    go_wp2_with (go_at_call 98;refine (HPC.out _ rfl).mono ?_;rintro e w' ⟨rfl,rfl⟩)
    go_ret
    rw [HGOAL.out,HN.out]
    exact ⟨rfl,B1.out⟩
  ·obtain rfl:q=k+1:=by omega
   have hkci:decide ((k:Int)+1 < ((k+1:Nat):Int))=false:=decide_eq_false (by omega)
   have hl:=HQ.out
   have e:A.take k=A.dropLast:=by rw [List.dropLast_eq_take,hl,Nat.add_sub_cancel]
   rw [e] at X
   have HY:Hid (A.all f=true):=by
    show _=_
    have:=all_drop HA.out (ok:=okW ways) (by rw [HFF.out];exact X.out)
    rwa [HFF.out] at this
   clear hl e
   go_wp2
   go_ret
   rw [HGOAL.out,HY.out]
   exact ⟨rfl,B1.out⟩
theorem rightB_yes {lo hi p:Int} (h1:0≤lo) (h2:lo < hi) (h3:0≤p) (h4:p≤3):rightB lo hi p=true:=by
 unfold rightB protB
 rw [decide_eq_true h1,decide_eq_true h2,decide_eq_true h3,decide_eq_true h4];rfl
theorem rightB_iff {lo hi p:Int} (h:rightB lo hi p=true):0≤lo∧lo < hi∧0≤p∧p≤3:=by
 unfold rightB protB at h
 simp only [Bool.and_eq_true,decide_eq_true_eq] at h
 exact h
/-- Has some region a page of the stretch? -/
def usedB (L:List Rg) (lo hi:Int):Bool:=L.any fun r=>decide (r.lo < hi) && decide (lo < r.hi)
theorem used_iff {L:List Rg} {lo hi:Int}:usedB L lo hi=true↔∃ r ∈ L,r.lo < hi∧lo < r.hi:=by
 unfold usedB
 rw [List.any_eq_true]
 constructor
 ·rintro ⟨r,h1,h2⟩;exact ⟨r,h1,by simpa using h2⟩
 ·rintro ⟨r,h1,h2⟩;exact ⟨r,h1,by simpa using h2⟩
theorem used_pieces {L:List Rg} {lo hi:Int} (hn:NiceL L) (h0:lo < hi):usedB L lo hi=false↔piecesL L lo hi=[]:=by
 rw [pieces_none hn h0]
 constructor
 ·intro h r hr e
  have:=used_iff.2 ⟨r,hr,e⟩
  rw [h] at this
  cases this
 ·intro h
  cases e:usedB L lo hi with
  | false=>rfl
  | true=>
   obtain ⟨r,hr,e⟩:=used_iff.1 e
   exact (h r hr e).elim
theorem used_at {L:List Rg} {lo hi:Int} {k:Nat} {r:Rg} (hr:L[k]?=some r) (h1:r.lo < hi) (h2:lo < r.hi):usedB L lo hi=true:=used_iff.2 ⟨r,List.mem_of_getElem? hr,h1,h2⟩
theorem used_take {L:List Rg} {lo hi:Int} {k:Nat} {r:Rg} (hr:L[k]?=some r) (h0:usedB (L.take k) lo hi=false) (h:¬ (r.lo < hi∧lo < r.hi)):usedB (L.take (k+1)) lo hi=false:=by
 unfold usedB at h0 ⊢
 rw [List.take_add_one,hr,List.any_append,h0]
 have:(decide (r.lo < hi) && decide (lo < r.hi))=false:=by
  cases e:(decide (r.lo < hi) && decide (lo < r.hi)) with
  | false=>rfl
  | true=>exact (h (by simpa using e)).elim
 simp [this]
set_option linter.unusedSimpArgs false in
set_option linter.unusedVariables false in
set_option maxHeartbeats 2000000 in
theorem refmap_arg (a:Option Addr) (n c:Nat) (lo hi p:Int) (w:World) (hr:rightB lo hi p=false) :
  Calls Tryz.prog 55 #[.slice a n c,.int .i64 lo,.int .i64 hi,.int .i64 p] w (GivesRE [] 1 w):=by
 have HR:=Lib.hid hr;clear hr
 by_cases x1:lo < 0
 ·skip
  have d1:decide (lo < 0)=true:=decide_eq_true x1
  go_enter Tryz.func55,Tryz.ntmps55
  go_wp2
  refine bodyPost_ret (v:=.tuple #[.slice none 0 0,.int .i64 1]) (by simp [results,Tryz.results55,go_sem]) rfl ?_
  exact ⟨_,rfl,OwnsS.nil _ _ _ _ _,Below.refl _ _⟩
 by_cases x2:hi≤lo
 ·skip
  have d1:decide (lo < 0)=false:=decide_eq_false x1
  have d2:decide (hi≤lo)=true:=decide_eq_true x2
  go_enter Tryz.func55,Tryz.ntmps55
  go_wp2
  refine bodyPost_ret (v:=.tuple #[.slice none 0 0,.int .i64 1]) (by simp [results,Tryz.results55,go_sem]) rfl ?_
  exact ⟨_,rfl,OwnsS.nil _ _ _ _ _,Below.refl _ _⟩
 by_cases x3:p < 0
 ·skip
  have d1:decide (lo < 0)=false:=decide_eq_false x1
  have d2:decide (hi≤lo)=false:=decide_eq_false x2
  have d3:decide (p < 0)=true:=decide_eq_true x3
  go_enter Tryz.func55,Tryz.ntmps55
  go_wp2
  refine bodyPost_ret (v:=.tuple #[.slice none 0 0,.int .i64 1]) (by simp [results,Tryz.results55,go_sem]) rfl ?_
  exact ⟨_,rfl,OwnsS.nil _ _ _ _ _,Below.refl _ _⟩
 have x4:3 < p:=by
  rcases Int.lt_or_le 3 p with e | e
  ·exact e
  ·have:=HR.out
   rw [rightB_yes (by omega) (by omega) (by omega) e] at this
   cases this
 have d1:decide (lo < 0)=false:=decide_eq_false x1
 have d2:decide (hi≤lo)=false:=decide_eq_false x2
 have d3:decide (p < 0)=false:=decide_eq_false x3
 have d4:decide (3 < p)=true:=decide_eq_true (by omega)
 go_enter Tryz.func55,Tryz.ntmps55
 go_wp2
 refine bodyPost_ret (v:=.tuple #[.slice none 0 0,.int .i64 1]) (by simp [results,Tryz.results55,go_sem]) rfl ?_
 exact ⟨_,rfl,OwnsS.nil _ _ _ _ _,Below.refl _ _⟩
set_option linter.unusedSimpArgs false in
set_option linter.unusedVariables false in
set_option maxHeartbeats 2000000 in
theorem refprotect_arg (a:Option Addr) (n c:Nat) (lo hi p:Int) (w:World) (hr:rightB lo hi p=false) :
  Calls Tryz.prog 57 #[.slice a n c,.int .i64 lo,.int .i64 hi,.int .i64 p] w (GivesRE [] 1 w):=by
 have HR:=Lib.hid hr;clear hr
 by_cases x1:lo < 0
 ·skip
  have d1:decide (lo < 0)=true:=decide_eq_true x1
  go_enter Tryz.func57,Tryz.ntmps57
  go_wp2
  refine bodyPost_ret (v:=.tuple #[.slice none 0 0,.int .i64 1]) (by simp [results,Tryz.results57,go_sem]) rfl ?_
  exact ⟨_,rfl,OwnsS.nil _ _ _ _ _,Below.refl _ _⟩
 by_cases x2:hi≤lo
 ·skip
  have d1:decide (lo < 0)=false:=decide_eq_false x1
  have d2:decide (hi≤lo)=true:=decide_eq_true x2
  go_enter Tryz.func57,Tryz.ntmps57
  go_wp2
  refine bodyPost_ret (v:=.tuple #[.slice none 0 0,.int .i64 1]) (by simp [results,Tryz.results57,go_sem]) rfl ?_
  exact ⟨_,rfl,OwnsS.nil _ _ _ _ _,Below.refl _ _⟩
 by_cases x3:p < 0
 ·skip
  have d1:decide (lo < 0)=false:=decide_eq_false x1
  have d2:decide (hi≤lo)=false:=decide_eq_false x2
  have d3:decide (p < 0)=true:=decide_eq_true x3
  go_enter Tryz.func57,Tryz.ntmps57
  go_wp2
  refine bodyPost_ret (v:=.tuple #[.slice none 0 0,.int .i64 1]) (by simp [results,Tryz.results57,go_sem]) rfl ?_
  exact ⟨_,rfl,OwnsS.nil _ _ _ _ _,Below.refl _ _⟩
 have x4:3 < p:=by
  rcases Int.lt_or_le 3 p with e | e
  ·exact e
  ·have:=HR.out
   rw [rightB_yes (by omega) (by omega) (by omega) e] at this
   cases this
 have d1:decide (lo < 0)=false:=decide_eq_false x1
 have d2:decide (hi≤lo)=false:=decide_eq_false x2
 have d3:decide (p < 0)=false:=decide_eq_false x3
 have d4:decide (3 < p)=true:=decide_eq_true (by omega)
 go_enter Tryz.func57,Tryz.ntmps57
 go_wp2
 refine bodyPost_ret (v:=.tuple #[.slice none 0 0,.int .i64 1]) (by simp [results,Tryz.results57,go_sem]) rfl ?_
 exact ⟨_,rfl,OwnsS.nil _ _ _ _ _,Below.refl _ _⟩
set_option linter.unusedSimpArgs false in
set_option linter.unusedVariables false in
set_option maxHeartbeats 2000000 in
/-- How the document's Map ends, of a stretch that may be. -/
def GivesRMap (L:List Rg) (lo hi p:Int) (w:World):Ending→World→Prop:=if usedB L lo hi=true then GivesRE [] 3 w else GivesRE (withL L lo hi p) 0 w
theorem gives_rused {L:List Rg} {lo hi p:Int} {w:World} {e:Ending} {w':World} (h:usedB L lo hi=true) (k:GivesRE [] 3 w e w'):GivesRMap L lo hi p w e w':=by
 unfold GivesRMap;rw [if_pos h];exact k
theorem gives_rmapped {L:List Rg} {lo hi p:Int} {w:World} {e:Ending} {w':World} (h:usedB L lo hi=false) (k:GivesRE (withL L lo hi p) 0 w e w'):GivesRMap L lo hi p w e w':=by
 unfold GivesRMap;rw [if_neg (by simp [h])];exact k
set_option linter.unusedSimpArgs false in
set_option linter.unusedVariables false in
set_option maxHeartbeats 2000000 in
theorem refmap_yes (a:Option Addr) (n c:Nat) (L:List Rg) (lo hi p:Int) (w:World) (h:RdS Rg.cells 3 w a n c L) (hn:n≤1000) (hw:∀ r ∈ L,r.Wf) (hlo:(Lit.int .i64 lo).wf=true) (hhi:(Lit.int .i64 hi).wf=true) (hr:rightB lo hi p=true) :
  Calls Tryz.prog 55 #[.slice a n c,.int .i64 lo,.int .i64 hi,.int .i64 p] w (GivesRMap L lo hi p w):=by
 obtain ⟨r1,r2,r3,r4⟩:=rightB_iff hr
 have d1:decide (lo < 0)=false:=decide_eq_false (by omega)
 have d2:decide (hi≤lo)=false:=decide_eq_false (by omega)
 have d3:decide (p < 0)=false:=decide_eq_false (by omega)
 have d4:decide (3 < p)=false:=decide_eq_false (by omega)
 have HWI:=Lib.hid (with_any a n c L lo hi p w h hn hw hlo hhi (Go.WalkArith.wf_i64 (by omega)))
 have H:=Lib.hid h;clear h hw hlo hhi hr
 go_enter Tryz.func55,Tryz.ntmps55
 go_wp2
 go_loop [10] (fun i=>∃ k:Nat,k≤n∧i = .int .i64 k∧Hid (usedB (L.take k) lo hi=false)) (fun i=>n - (intOf i).toNat)
 case atStart=>exact ⟨0,by omega,rfl,rfl⟩
 case round=>
  obtain ⟨k,hk,rfl,X⟩:=hrel
  by_cases hkn:k < n
  ·have hl:=H.out.len
   obtain ⟨r,hr⟩:∃ r,L[k]?=some r:=⟨L[k],List.getElem?_eq_getElem (by omega)⟩
   obtain ⟨b,o,ha,c0,c1,c2⟩:=H.out.three k r hr
   subst ha;have HX:=Lib.hid hr;clear hr hl
   obtain ⟨rlo,rhi,rp⟩:=r
   replace c0:w.cell? ⟨b,o+k * 3,none⟩=some (.int .i64 rlo):=c0
   replace c1:w.cell? ⟨b,o+k * 3+1,none⟩=some (.int .i64 rhi):=c1
   by_cases x1:rlo < hi
   ·by_cases x2:lo < rhi
    ·have HU:Hid (usedB L lo hi=true):=used_at HX.out x1 x2
     have e1:decide (rlo < hi)=true:=decide_eq_true x1
     have e2:decide (lo < rhi)=true:=decide_eq_true x2
     go_wp2
     refine bodyPost_ret (v:=.tuple #[.slice none 0 0,.int .i64 3]) (by simp [results,Tryz.results55,go_sem]) rfl ?_
     exact gives_rused HU.out ⟨_,rfl,OwnsS.nil _ _ _ _ _,Below.refl _ _⟩
    ·have HU:Hid (usedB (L.take (k+1)) lo hi=false):=used_take HX.out X.out (fun e=>x2 e.2)
     have e1:decide (rlo < hi)=true:=decide_eq_true x1
     have e2:decide (lo < rhi)=false:=decide_eq_false x2
     go_wp2
     go_round
     case rel=>exact ⟨k+1,by omega,by go_num,HU.out⟩
     case measure=>simp [intOf] <;> omega
   ·have HU:Hid (usedB (L.take (k+1)) lo hi=false):=used_take HX.out X.out (fun e=>x1 e.1)
    have e1:decide (rlo < hi)=false:=decide_eq_false x1
    go_wp2
    go_round
    case rel=>exact ⟨k+1,by omega,by go_num,HU.out⟩
    case measure=>simp [intOf] <;> omega
  ·obtain rfl:k=n:=by omega
   have hl:=H.out.len
   have e:L.take k=L:=List.take_of_length_le (by omega)
   rw [e] at X;clear hl e
   go_wp2_with (go_at_call 88;refine HWI.out.mono ?_;rintro e w' ⟨v,rfl,ho,hb⟩)
   refine bodyPost_ret (v:=.tuple #[v,.int .i64 0]) (by simp [results,Tryz.results55,go_sem]) rfl ?_
   exact gives_rmapped X.out ⟨_,rfl,ho,hb⟩
theorem rerun {L:List Rg} {w w1 w2:World} {v:Value} (hb:Below w.heap.size w w1) (ho:OwnsS Rg.cells 3 110 w2 w1.heap.size v L) (hb2:Below w1.heap.size w1 w2):GivesRE L 0 w (.returned (.tuple #[v,.int .i64 0])) w2:=
 ⟨v,rfl,ho.mono hb.size,Below.call hb hb2⟩
set_option linter.unusedSimpArgs false in
set_option linter.unusedVariables false in
set_option maxHeartbeats 2000000 in
theorem refprotect_yes (a:Option Addr) (n c:Nat) (L:List Rg) (lo hi p:Int) (w:World) (h:RdS Rg.cells 3 w a n c L) (hn:n≤1000) (hw:∀ r ∈ L,r.Wf) (hlo:(Lit.int .i64 lo).wf=true) (hhi:(Lit.int .i64 hi).wf=true) (hr:rightB lo hi p=true) :
  Calls Tryz.prog 57 #[.slice a n c,.int .i64 lo,.int .i64 hi,.int .i64 p] w (if refAll L lo hi (okW 0)=false then GivesRE [] 2 w else GivesRE (withL L lo hi p) 0 w):=by
 obtain ⟨r1,r2,r3,r4⟩:=rightB_iff hr
 have d1:decide (lo < 0)=false:=decide_eq_false (by omega)
 have d2:decide (hi≤lo)=false:=decide_eq_false (by omega)
 have d3:decide (p < 0)=false:=decide_eq_false (by omega)
 have d4:decide (3 < p)=false:=decide_eq_false (by omega)
 have HWI:Hid (∀ w1,Below w.heap.size w w1→Calls Tryz.prog 88 #[.slice a n c,.int .i64 lo,.int .i64 hi,.int .i64 p] w1 (GivesRgs (withL L lo hi p) w1)):=fun w1 hb=>with_any a n c L lo hi p w1 (h.below hb) hn hw hlo hhi (Go.WalkArith.wf_i64 (by omega))
 have HA:=Lib.hid (refall_any a n c L lo hi 0 w h hn hw hlo hhi)
 clear h hw hlo hhi hr
 obtain ⟨AB,hAB⟩:∃ x,refAll L lo hi (okW 0)=x:=⟨_,rfl⟩
 rw [hAB] at HA ⊢;clear hAB
 cases AB with
 | false=>
  rw [if_pos rfl]
  go_enter Tryz.func57,Tryz.ntmps57
  go_wp2_with (go_at_call 87;refine HA.out.mono ?_;rintro e w' ⟨rfl,hb⟩)
  refine bodyPost_ret (v:=.tuple #[.slice none 0 0,.int .i64 2]) (by simp [results,Tryz.results57,go_sem]) rfl ?_
  exact ⟨_,rfl,OwnsS.nil _ _ _ _ _,hb⟩
 | true=>
  rw [if_neg (by simp)]
  go_enter Tryz.func57,Tryz.ntmps57
  go_wp2_with (first | (go_at_call 87;refine HA.out.mono ?_;rintro e w1 ⟨rfl,hb⟩) | (go_at_call 88;refine (HWI.out _ (by assumption)).mono ?_;rintro e w2 ⟨v,rfl,ho,hb2⟩))
  refine bodyPost_ret (v:=.tuple #[v,.int .i64 0]) (by simp [results,Tryz.results57,go_sem]) rfl ?_
  exact rerun hb ho hb2
set_option linter.unusedSimpArgs false in
set_option linter.unusedVariables false in
set_option maxHeartbeats 2000000 in
theorem refunmap_any (a:Option Addr) (n c:Nat) (L:List Rg) (lo hi:Int) (w:World) (h:RdS Rg.cells 3 w a n c L) (hn:n≤1000) (hw:∀ r ∈ L,r.Wf) (hlo:(Lit.int .i64 lo).wf=true) (hhi:(Lit.int .i64 hi).wf=true) :
  Calls Tryz.prog 56 #[.slice a n c,.int .i64 lo,.int .i64 hi] w (GivesRgs (if hi≤lo then L else withL L lo hi (-1)) w):=by
 by_cases h0:hi≤lo
 ·rw [if_pos h0]
  have HL:Hid (n < 1000000000000):=by show _ < _;omega
  have H:=Lib.hid h;clear h hw hlo hhi
  go_enter Tryz.func56,Tryz.ntmps56
  go_wp2_with (at_builtin;refine appS_all rgC Tryz.underlying77 rgI rfl (by decide) rfl _ _ rfl _ w.heap.size _ [] rfl (OwnsS.empty _ _ _ _ _ _ _) _ _ _ L rfl (H.out.alloc _) (by have:=HL.out;simp;omega) (by simp) ?_;intro x1 w1 ho1 hg0)
  go_ret
  exact ⟨_,rfl,ho1,hg0.fromEmpty⟩
 ·rw [if_neg h0]
  have HWI:=Lib.hid (with_any a n c L lo hi (-1) w h hn hw hlo hhi (by decide))
  clear h hw hlo hhi
  have d1:decide (hi≤lo)=false:=decide_eq_false h0
  go_enter Tryz.func56,Tryz.ntmps56
  go_wp2_with (go_at_call 88;refine HWI.out.mono ?_;rintro e w' ⟨v,rfl,ho,hb⟩)
  go_ret
  exact ⟨_,rfl,ho,hb⟩
/-- Regions that are right, not too many: what Clean, Map, Protect and Unmap make. -/
structure Cn (m:Nat) (C:List Rg):Prop where
 canon:Canon 0 (-1) C
 few:C.length≤m
 lo:Within 1099511627776 C
theorem Cn.nice {m:Nat} {C:List Rg} (h:Cn m C):NiceL C:=h.canon.rising.nice
theorem Cn.parted {m:Nat} {C:List Rg} (h:Cn m C):Parted C:=h.canon.rising.parted
theorem Cn.ends {m:Nat} {C:List Rg} (h:Cn m C):∀ r ∈ C,0≤r.lo∧r.hi≤1099511627776:=fun r hr=>⟨(h.lo r hr).1,(h.lo r hr).2.1⟩
theorem Cn.sm {m:Nat} {C:List Rg} (h:Cn m C):∀ r ∈ C,r.Sm:=fun r hr=>by
 have h1:=h.lo r hr
 have h2:=h.nice r hr
 exact ⟨by omega,by omega,by omega⟩
theorem Cn.wf {m:Nat} {C:List Rg} (h:Cn m C):∀ r ∈ C,r.Wf:=fun r hr=>(h.sm r hr).wf
theorem Cn.more {m m':Nat} {C:List Rg} (h:Cn m C) (hm:m≤m'):Cn m' C:=⟨h.canon,Nat.le_trans h.few hm,h.lo⟩
theorem joinedL_few (l:List Rg):(joinedL l).length≤l.length:=by
 unfold joinedL
 have h:=joinedS_le (sortLo l)
 rwa [(sortLo_perm l).length_eq] at h
theorem protect_cn {m:Nat} {C:List Rg} {lo hi p:Int} (h:Cn m C) (h0:0≤lo) (hl:lo < hi) (hh:hi≤1099511627776) (hp:0≤p∧p≤3):Cn (m+2) (withL C lo hi p):=by
 rw [← protect_with h.canon h0 hl hp.1]
 have hpart:=(cutL_parted h.parted hl).snoc (r:=⟨lo,hi,p⟩) (cutL_apart (r:=⟨lo,hi,p⟩) hl)
 have hnice:=(cutL_nice h.nice hl).snoc (r:=⟨lo,hi,p⟩) ⟨hl,hp.1⟩
 refine ⟨joinedL_canon hpart hnice (snoc_low (fun s hs=>((cutL_rising h.canon.rising hl).mem s hs).1) h0),?_,joinedL_within ?_⟩
 ·refine Nat.le_trans (joinedL_few _) ?_
  rw [List.length_append]
  have:=cutL_one hl h.parted
  have:=h.few
  simp
  omega
 ·intro r hr
  rcases List.mem_append.1 hr with hr | hr
  ·exact cutL_within h.lo r hr
  ·obtain rfl:=List.mem_singleton.1 hr
   exact ⟨h0,hh,hp.2⟩
def unL (C:List Rg) (lo hi:Int):List Rg:=if hi≤lo then C else withL C lo hi (-1)
theorem unL_cut {m:Nat} {C:List Rg} {lo hi:Int} (h:Cn m C):cutL C lo hi=unL C lo hi:=by
 unfold unL
 by_cases h0:hi≤lo
 ·rw [if_pos h0]
  unfold cutL
  rw [if_pos h0]
 ·rw [if_neg h0,unmap_with h.canon (by omega)]
theorem un_cn {m:Nat} {C:List Rg} {lo hi:Int} (h:Cn m C):Cn (m+1) (unL C lo hi):=by
 rw [← unL_cut h]
 by_cases h0:hi≤lo
 ·unfold cutL
  rw [if_pos h0]
  exact h.more (by omega)
 ·have hl:lo < hi:=by omega
  exact ⟨cutL_canon h.canon hl,by have:=cutL_one hl h.parted;have:=h.few;omega,cutL_within h.lo⟩
def mapE (C:List Rg) (lo hi p:Int):Int:=if rightB lo hi p=false then 1 else if usedB C lo hi=true then 3 else 0
def mapL (C:List Rg) (lo hi p:Int):List Rg:=if mapE C lo hi p=0 then withL C lo hi p else []
def proE (C:List Rg) (lo hi p:Int):Int:=if rightB lo hi p=false then 1 else if refAll C lo hi (okW 0)=false then 2 else 0
def proL (C:List Rg) (lo hi p:Int):List Rg:=if proE C lo hi p=0 then withL C lo hi p else []
theorem map_ok {C:List Rg} {lo hi p:Int} (h:mapE C lo hi p=0):(0≤lo∧lo < hi∧0≤p∧p≤3)∧usedB C lo hi=false∧mapL C lo hi p=withL C lo hi p:=by
 refine ⟨?_,?_,by unfold mapL;rw [if_pos h]⟩
 ·cases e:rightB lo hi p with
  | true=>exact rightB_iff e
  | false=>unfold mapE at h;rw [if_pos e] at h;cases h
 ·cases e:rightB lo hi p with
  | false=>unfold mapE at h;rw [if_pos e] at h;cases h
  | true=>
   unfold mapE at h
   rw [if_neg (by simp [e])] at h
   cases e2:usedB C lo hi with
   | false=>rfl
   | true=>rw [if_pos e2] at h;cases h
theorem pro_ok {C:List Rg} {lo hi p:Int} (h:proE C lo hi p=0):(0≤lo∧lo < hi∧0≤p∧p≤3)∧refAll C lo hi (okW 0)=true∧proL C lo hi p=withL C lo hi p:=by
 refine ⟨?_,?_,by unfold proL;rw [if_pos h]⟩
 ·cases e:rightB lo hi p with
  | true=>exact rightB_iff e
  | false=>unfold proE at h;rw [if_pos e] at h;cases h
 ·cases e:rightB lo hi p with
  | false=>unfold proE at h;rw [if_pos e] at h;cases h
  | true=>
   unfold proE at h
   rw [if_neg (by simp [e])] at h
   cases e2:refAll C lo hi (okW 0) with
   | true=>rfl
   | false=>rw [if_pos e2] at h;cases h
theorem map_cn {m:Nat} {C:List Rg} {lo hi p:Int} (h:Cn m C) (hh:hi≤1099511627776):Cn (m+2) (mapL C lo hi p):=by
 by_cases e:mapE C lo hi p=0
 ·obtain ⟨h1,_,h3⟩:=map_ok e
  rw [h3]
  exact protect_cn h h1.1 h1.2.1 hh h1.2.2
 ·unfold mapL
  rw [if_neg e]
  exact ⟨trivial,by simp,fun r hr=>(List.not_mem_nil hr).elim⟩
theorem pro_cn {m:Nat} {C:List Rg} {lo hi p:Int} (h:Cn m C) (hh:hi≤1099511627776):Cn (m+2) (proL C lo hi p):=by
 by_cases e:proE C lo hi p=0
 ·obtain ⟨h1,_,h3⟩:=pro_ok e
  rw [h3]
  exact protect_cn h h1.1 h1.2.1 hh h1.2.2
 ·unfold proL
  rw [if_neg e]
  exact ⟨trivial,by simp,fun r hr=>(List.not_mem_nil hr).elim⟩
theorem map_out {m:Nat} (a:Option Addr) (n c:Nat) (C:List Rg) (lo hi p:Int) (w:World) (h:RdS Rg.cells 3 w a n c C) (hc:Cn m C) (hm:m≤900) (hh:hi≤1099511627776) :
  Calls Tryz.prog 90 #[.slice a n c,.int .i64 lo,.int .i64 hi,.int .i64 p] w (GivesRE (mapL C lo hi p) (mapE C lo hi p) w):=by
 have hn:n≤1000:=by have:=h.len;have:=hc.few;omega
 cases e:rightB lo hi p with
 | false=>
  have e1:mapE C lo hi p=1:=by unfold mapE;rw [if_pos e]
  have e2:mapL C lo hi p=[]:=by unfold mapL;rw [e1];rfl
  rw [e1,e2]
  exact map_arg a n c lo hi p w e
 | true=>
  obtain ⟨r1,r2,r3,r4⟩:=rightB_iff e
  refine (map_yes a n c C lo hi p w h hn hc.nice hc.parted hc.ends hh e).mono fun en w' k=>?_
  unfold GivesMap at k
  cases e2:usedB C lo hi with
  | true=>
   have e3:mapE C lo hi p=3:=by unfold mapE;rw [if_neg (by simp [e]),if_pos e2]
   have e4:mapL C lo hi p=[]:=by unfold mapL;rw [e3];rfl
   rw [if_neg (fun x=>by rw [(used_pieces hc.nice r2).2 x] at e2;cases e2)] at k
   rw [e3,e4]
   exact k
  | false=>
   have e3:mapE C lo hi p=0:=by unfold mapE;rw [if_neg (by simp [e]),if_neg (by simp [e2])]
   have e4:mapL C lo hi p=withL C lo hi p:=by unfold mapL;rw [if_pos e3]
   have hp:=(used_pieces hc.nice r2).1 e2
   rw [if_pos hp,map_with hc.canon r1 r2 r3 ((pieces_none hc.nice r2).1 hp)] at k;rw [e3,e4]
   exact k
theorem refmap_out {m:Nat} (a:Option Addr) (n c:Nat) (C:List Rg) (lo hi p:Int) (w:World) (h:RdS Rg.cells 3 w a n c C) (hc:Cn m C) (hm:m≤900) (hlo:(Lit.int .i64 lo).wf=true) (hhi:(Lit.int .i64 hi).wf=true) :
  Calls Tryz.prog 55 #[.slice a n c,.int .i64 lo,.int .i64 hi,.int .i64 p] w (GivesRE (mapL C lo hi p) (mapE C lo hi p) w):=by
 have hn:n≤1000:=by have:=h.len;have:=hc.few;omega
 cases e:rightB lo hi p with
 | false=>
  have e1:mapE C lo hi p=1:=by unfold mapE;rw [if_pos e]
  have e2:mapL C lo hi p=[]:=by unfold mapL;rw [e1];rfl
  rw [e1,e2]
  exact refmap_arg a n c lo hi p w e
 | true=>
  refine (refmap_yes a n c C lo hi p w h hn hc.wf hlo hhi e).mono fun en w' k=>?_
  unfold GivesRMap at k
  cases e2:usedB C lo hi with
  | true=>
   have e3:mapE C lo hi p=3:=by unfold mapE;rw [if_neg (by simp [e]),if_pos e2]
   have e4:mapL C lo hi p=[]:=by unfold mapL;rw [e3];rfl
   rw [if_pos e2] at k;rw [e3,e4]
   exact k
  | false=>
   have e3:mapE C lo hi p=0:=by unfold mapE;rw [if_neg (by simp [e]),if_neg (by simp [e2])]
   have e4:mapL C lo hi p=withL C lo hi p:=by unfold mapL;rw [if_pos e3]
   rw [if_neg (by simp [e2])] at k;rw [e3,e4]
   exact k
theorem pro_out {m:Nat} (a:Option Addr) (n c:Nat) (C:List Rg) (lo hi p:Int) (w:World) (h:RdS Rg.cells 3 w a n c C) (hc:Cn m C) (hm:m≤900) (hh:hi≤1099511627776) :
  Calls Tryz.prog 92 #[.slice a n c,.int .i64 lo,.int .i64 hi,.int .i64 p] w (GivesRE (proL C lo hi p) (proE C lo hi p) w):=by
 have hn:n≤1000:=by have:=h.len;have:=hc.few;omega
 refine (protect_any a n c C lo hi p w h hn hc.nice hc.parted hc.ends hh).mono fun en w' k=>?_
 cases e:rightB lo hi p with
 | false=>
  have e1:proE C lo hi p=1:=by unfold proE;rw [if_pos e]
  have e2:proL C lo hi p=[]:=by unfold proL;rw [e1];rfl
  rw [if_pos e] at k;rw [e1,e2]
  exact k
 | true=>
  obtain ⟨r1,r2,r3,r4⟩:=rightB_iff e
  rw [if_neg (by simp [e]),all_ref hc.canon.rising r1] at k
  cases e2:refAll C lo hi (okW 0) with
  | false=>
   have e3:proE C lo hi p=2:=by unfold proE;rw [if_neg (by simp [e]),if_pos e2]
   have e4:proL C lo hi p=[]:=by unfold proL;rw [e3];rfl
   rw [if_pos e2] at k;rw [e3,e4]
   exact k
  | true=>
   have e3:proE C lo hi p=0:=by unfold proE;rw [if_neg (by simp [e]),if_neg (by simp [e2])]
   have e4:proL C lo hi p=withL C lo hi p:=by unfold proL;rw [if_pos e3]
   rw [if_neg (by simp [e2]),protect_with hc.canon r1 r2 r3] at k;rw [e3,e4]
   exact k
theorem refpro_out {m:Nat} (a:Option Addr) (n c:Nat) (C:List Rg) (lo hi p:Int) (w:World) (h:RdS Rg.cells 3 w a n c C) (hc:Cn m C) (hm:m≤900) (hlo:(Lit.int .i64 lo).wf=true) (hhi:(Lit.int .i64 hi).wf=true) :
  Calls Tryz.prog 57 #[.slice a n c,.int .i64 lo,.int .i64 hi,.int .i64 p] w (GivesRE (proL C lo hi p) (proE C lo hi p) w):=by
 have hn:n≤1000:=by have:=h.len;have:=hc.few;omega
 cases e:rightB lo hi p with
 | false=>
  have e1:proE C lo hi p=1:=by unfold proE;rw [if_pos e]
  have e2:proL C lo hi p=[]:=by unfold proL;rw [e1];rfl
  rw [e1,e2]
  exact refprotect_arg a n c lo hi p w e
 | true=>
  refine (refprotect_yes a n c C lo hi p w h hn hc.wf hlo hhi e).mono fun en w' k=>?_
  cases e2:refAll C lo hi (okW 0) with
  | false=>
   have e3:proE C lo hi p=2:=by unfold proE;rw [if_neg (by simp [e]),if_pos e2]
   have e4:proL C lo hi p=[]:=by unfold proL;rw [e3];rfl
   rw [if_pos e2] at k;rw [e3,e4]
   exact k
  | true=>
   have e3:proE C lo hi p=0:=by unfold proE;rw [if_neg (by simp [e]),if_neg (by simp [e2])]
   have e4:proL C lo hi p=withL C lo hi p:=by unfold proL;rw [if_pos e3]
   rw [if_neg (by simp [e2])] at k;rw [e3,e4]
   exact k
theorem un_out {m:Nat} (a:Option Addr) (n c:Nat) (C:List Rg) (lo hi:Int) (w:World) (h:RdS Rg.cells 3 w a n c C) (hc:Cn m C) (hm:m≤900) :
  Calls Tryz.prog 91 #[.slice a n c,.int .i64 lo,.int .i64 hi] w (GivesRgs (unL C lo hi) w):=by
 have hn:n≤1000:=by have:=h.len;have:=hc.few;omega
 have:=unmap_any a n c C lo hi w h hn hc.nice
 rwa [unL_cut hc] at this
theorem refun_out {m:Nat} (a:Option Addr) (n c:Nat) (C:List Rg) (lo hi:Int) (w:World) (h:RdS Rg.cells 3 w a n c C) (hc:Cn m C) (hm:m≤900) (hlo:(Lit.int .i64 lo).wf=true) (hhi:(Lit.int .i64 hi).wf=true) :
  Calls Tryz.prog 56 #[.slice a n c,.int .i64 lo,.int .i64 hi] w (GivesRgs (unL C lo hi) w):=by
 have hn:n≤1000:=by have:=h.len;have:=hc.few;omega
 exact refunmap_any a n c C lo hi w h hn hc.wf hlo hhi
def qnum (b:BitVec 64):Int:=(b.toNat:Int)
theorem qnum_bd (b:BitVec 64):0≤qnum b∧qnum b≤18446744073709551615:=by unfold qnum;have:=b.isLt;omega
theorem ofInt_qnum (a:BitVec 64):BitVec.ofInt 64 (qnum a)=a:=by unfold qnum;rw [BitVec.ofInt_natCast,BitVec.ofNat_toNat];simp
theorem wrap_qnum (b:BitVec 64):IntKind.u64.wrap (b.toNat:Int)=qnum b:=by rw [IntKind.wrap_u64];unfold qnum;have:=b.isLt;omega
theorem q_and (x y:Int):bits .and .u64 x y=qnum (BitVec.ofInt 64 x &&& BitVec.ofInt 64 y):=wrap_qnum _
theorem q_or (x y:Int):bits .or .u64 x y=qnum (BitVec.ofInt 64 x ||| BitVec.ofInt 64 y):=wrap_qnum _
theorem q_andNot (x y:Int):bits .andNot .u64 x y=qnum (BitVec.ofInt 64 x &&& ~~~ BitVec.ofInt 64 y):=wrap_qnum _
theorem q_shr (a:BitVec 64) (k:Nat):qnum a / 2 ^ k=qnum (a >>> k):=by
 unfold qnum;rw [BitVec.toNat_ushiftRight,Nat.shiftRight_eq_div_pow];simp
def qbit (k:Nat):BitVec 64:=1#64 <<< k
theorem qbit_get (k i:Nat) (hi:i < 64):(qbit k).getLsbD i=decide (i=k):=by
 unfold qbit
 rw [BitVec.getLsbD_shiftLeft,BitVec.getLsbD_one]
 by_cases h:i=k
 ·subst h;simp [hi]
 ·rw [decide_eq_false h]
  by_cases h2:i < k
  ·simp [h2]
  ·rw [decide_eq_false (by omega:¬ i - k=0)];simp
theorem qbit_num (k:Nat) (h:k < 64):(2:Int) ^ k=qnum (qbit k):=by
 unfold qnum qbit
 rw [BitVec.toNat_shiftLeft,Nat.shiftLeft_eq]
 have:2 ^ k < 2 ^ 64:=Nat.pow_lt_pow_right (by decide) h
 simp only [BitVec.toNat_ofNat]
 rw [Nat.mod_eq_of_lt (by omega:1 < 2 ^ 64),Nat.one_mul,Nat.mod_eq_of_lt this]
 simp
theorem q_and_one (r:BitVec 64):r &&& 1#64=if r.getLsbD 0 then 1#64 else 0#64:=by
 apply BitVec.eq_of_getLsbD_eq
 intro i hi;rw [BitVec.getLsbD_and,BitVec.getLsbD_one]
 by_cases h:r.getLsbD 0=true
 ·rw [if_pos h,BitVec.getLsbD_one]
  cases i with
  | zero=>rw [h];rfl
  | succ i=>simp
 ·rw [if_neg h]
  cases i with
  | zero=>rw [Bool.not_eq_true] at h;rw [h];rfl
  | succ i=>simp
theorem q_test (v:BitVec 64) (k:Nat):bits .and .u64 (qnum v / 2 ^ k) 1=if v.getLsbD k=true then 1 else 0:=by
 rw [q_and,q_shr,ofInt_qnum,show BitVec.ofInt 64 1=1#64 from rfl,q_and_one,BitVec.getLsbD_ushiftRight,Nat.add_zero]
 by_cases h:v.getLsbD k=true
 ·rw [if_pos h,if_pos h];rfl
 ·rw [if_neg h,if_neg h];rfl
theorem q_put (v:BitVec 64) (k:Nat) (h:k < 64):bits .or .u64 (qnum v) (2 ^ k)=qnum (v ||| qbit k):=by
 rw [q_or,qbit_num k h,ofInt_qnum,ofInt_qnum]
theorem q_drop (v:BitVec 64) (k:Nat) (h:k < 64):bits .andNot .u64 (qnum v) (2 ^ k)=qnum (v &&& ~~~ qbit k):=by
 rw [q_andNot,qbit_num k h,ofInt_qnum,ofInt_qnum]
theorem put_get (v:BitVec 64) (k i:Nat) (hi:i < 64):(v ||| qbit k).getLsbD i=(v.getLsbD i || decide (i=k)):=by
 rw [BitVec.getLsbD_or,qbit_get k i hi]
theorem drop_get (v:BitVec 64) (k i:Nat) (hi:i < 64):(v &&& ~~~ qbit k).getLsbD i=(v.getLsbD i && !decide (i=k)):=by
 rw [BitVec.getLsbD_and,BitVec.getLsbD_not,qbit_get k i hi,decide_eq_true hi,Bool.true_and]
theorem wrap_pow (k:Nat) (h:k < 64):IntKind.u64.wrap (2 ^ k)=2 ^ k:=by
 rw [qbit_num k h]
 have:=qnum_bd (qbit k)
 rw [IntKind.wrap_u64]
 omega
theorem q_put' (v:BitVec 64) (k:Nat) (h:k < 64):bits .or .u64 (qnum v) (IntKind.u64.wrap (2 ^ k))=qnum (v ||| qbit k):=by rw [wrap_pow k h,q_put v k h]
theorem q_drop' (v:BitVec 64) (k:Nat) (h:k < 64):bits .andNot .u64 (qnum v) (IntKind.u64.wrap (2 ^ k))=qnum (v &&& ~~~ qbit k):=by rw [wrap_pow k h,q_drop v k h]
def hasB (n:Int) (v:BitVec 64) (p:Int):Bool:=decide (0≤p) && (decide (p < n) && v.getLsbD p.toNat)
/-- The least number below n that is not taken; n: there is none. -/
def firstF (v:BitVec 64):Nat→Nat
 | 0=>0
 | m+1=>if firstF v m < m then firstF v m else if v.getLsbD m=true then m+1 else m
theorem firstF_le (v:BitVec 64):∀ m,firstF v m≤m
 | 0=>Nat.le_refl _
 | m+1=>by
  rw [firstF]
  split
  ·omega
  ·split <;> omega
theorem firstF_below (v:BitVec 64):∀ m j,j < firstF v m→v.getLsbD j=true
 | 0,j,h=>by simp [firstF] at h
 | m+1,j,h=>by
  have hl:=firstF_le v m
  rw [firstF] at h
  by_cases h1:firstF v m < m
  ·rw [if_pos h1] at h;exact firstF_below v m j h
  ·rw [if_neg h1] at h
   by_cases h2:v.getLsbD m=true
   ·rw [if_pos h2] at h
    by_cases e:j=m
    ·rw [e];exact h2
    ·exact firstF_below v m j (by omega)
   ·rw [if_neg h2] at h
    exact firstF_below v m j (by omega)
theorem firstF_at (v:BitVec 64):∀ m,firstF v m < m→v.getLsbD (firstF v m)=false
 | 0,h=>by simp [firstF] at h
 | m+1,h=>by
  rw [firstF] at h ⊢
  by_cases h1:firstF v m < m
  ·rw [if_pos h1];exact firstF_at v m h1
  ·rw [if_neg h1] at h ⊢
   by_cases h2:v.getLsbD m=true
   ·rw [if_pos h2] at h;omega
   ·rw [if_neg h2];simpa using h2
/-- All that are taken, rising. -/
def pidsK (v:BitVec 64):Nat→List Int
 | 0=>[]
 | k+1=>if v.getLsbD k=true then pidsK v k ++ [(k:Int)] else pidsK v k
theorem pidsK_le (v:BitVec 64):∀ k,(pidsK v k).length≤k
 | 0=>Nat.le_refl _
 | k+1=>by
  have:=pidsK_le v k
  rw [pidsK]
  split
  ·simp;omega
  ·omega
theorem pidsK_all {v:BitVec 64}:∀ k,(∀ j,j < k→v.getLsbD j=true)→(pidsK v k).length=k
 | 0,_=>rfl
 | k+1,h=>by
  rw [pidsK,if_pos (h k (by omega)),List.length_append,pidsK_all k (fun j hj=>h j (by omega))];rfl
end Go.Proofs.YtoepnbfifjgpfaaGreat
