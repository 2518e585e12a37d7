/- How many pages of a process two machines do not have alike (unlike). -/
import Derived.Test.YtnbjodoajfkekaaGreatMv0
import Derived.Test.YtnbjodoajfkekaaGreatMw8
import Derived.Test.YtnbjodoajfkekaaGreatMv21
import Derived.Test.YtnbjodoajfkekaaGreatMw9
import Derived.WalkKit
import Derived.ProofKit
import Derived.BigQuiet
import Derived.Deep.QuietTactic
import Derived.Lib.Hide
import Derived.RegionTactic
namespace Go.Proofs.YtnbjodoajfkekaaGreat
set_option maxRecDepth 100000
open Go.RowKit
set_option linter.unusedSimpArgs false
def fU (M:List (Int × List Int)) (x:Int × List Int):Bool:=!decide (kget M x.1=some x.2)
def gU (L:List (Int × List Int)) (x:Int × List Int):Bool:=(kget L x.1).isNone
def unlM (L M:List (Int × List Int)):Nat:=(L.filter (fU M)).length+(M.filter (gU L)).length
theorem filter_take {α:Type} (f:α→Bool) (L:List α) (k:Nat) (x:α) (hx:L[k]?=some x):((L.take (k+1)).filter f).length=((L.take k).filter f).length+(if f x=true then 1 else 0):=by
 rw [List.take_add_one,hx]
 simp only [Option.toList_some,List.filter_append,List.length_append,List.filter_cons,List.filter_nil]
 split <;> rfl
theorem filterK_le {α:Type} (f:α→Bool) (L:List α) (k:Nat):((L.take k).filter f).length≤k:=Nat.le_trans (List.length_filter_le _ _) (by rw [List.length_take];omega)
section
variable {No:Nat→Prop} {h h2:McH} {st st2:Mc} {w:World}
theorem McIn.lookPB (i:McIn w No h st) (p n:Int) (hp:(Lit.int .i64 p).wf=true) (hn:(Lit.int .i64 n).wf=true) :
  ∃ a m c,(∀ w',Below w.heap.size w w'→(Instr.lookup 66 (.map (some h.pb)) (.agg #[.int .i64 p,.int .i64 n]) true).run Tryz.prog w' = .ok (.tuple #[.slice a m c,.bool (kget (st.ms p) n).isSome]) w'∧(Instr.lookup 66 (.map (some h.pb)) (.agg #[.int .i64 p,.int .i64 n]) false).run Tryz.prog w' = .ok (.slice a m c) w')∧∀ b,kget (st.ms p) n=some b→RdAt .u8 w a m c b:=by
 obtain ⟨D,E,e1,e2,e3,e4⟩:=i.dat
 have hl:=fun (w':World) (b:Below w.heap.size w w')=>mg_look2 (e2.at (b.block _ e2.lt)) (p,n) ⟨hp,hn⟩
 have hl1:=fun (w':World) (b:Below w.heap.size w w')=>mg_look (e2.at (b.block _ e2.lt)) (p,n) ⟨hp,hn⟩
 have hs:=i.ok.srt p
 cases hk:kget E (p,n) with
 | none=>
  have h0:kget (st.ms p) n=none:=kget_none (fun q hq e=>by
   obtain ⟨v,hv⟩:=e4.has p q hq
   exact kget_no hk _ hv (by rw [e]))
  simp only [hk] at hl hl1
  rw [h0]
  exact ⟨none,0,0,fun w' b=>⟨hl w' b,hl1 w' b⟩,fun b h=>by cases h⟩
 | some v=>
  obtain ⟨b,hb,a,m,c,e,r,hx⟩:=e4.all _ (kget_mem hk)
  have h0:kget (st.ms p) n=some b:=(kget_iff hs).2 hb
  simp only [hk] at hl hl1
  rw [h0]
  simp only at e
  subst e
  exact ⟨a,m,c,fun w' b=>⟨hl w' b,hl1 w' b⟩,fun b' e'=>by injection e' with e';subst e';exact r⟩
set_option maxHeartbeats 4000000 in
theorem unlike_any (i:McIn w No h st) (j:McIn w No h2 st2) (p:Int) (hp:(Lit.int .i64 p).wf=true):Calls Tryz.prog 80 #[.pointer (some ⟨h.m,0,none⟩),.pointer (some ⟨h2.m,0,none⟩),.int .i64 p] w fun e w'=>e = .returned (.int .i64 ((unlM (st.ms p) (st2.ms p):Nat):Int))∧Below w.heap.size w w':=by
 obtain ⟨_,_,_,_,_,_,c11⟩:=i.cells
 obtain ⟨_,_,_,_,_,_,d11⟩:=j.cells
 have HI:=Lib.hid i;have HJ:=Lib.hid j;have HP:=Lib.hid hp
 obtain ⟨LL,hLL⟩:∃ x,st.ms p=x:=⟨_,rfl⟩
 obtain ⟨MM,hMM⟩:∃ x,st2.ms p=x:=⟨_,rfl⟩
 have hc1:=stored_any i p
 have HLB:Hid (LL.length≤65536):=by rw [← hLL];exact i.ok.few p
 have HMB:Hid (MM.length≤65536):=by rw [← hMM];exact j.ok.few p
 have HLS:Hid (SrtP LL):=by rw [← hLL];exact i.ok.srt p
 rw [hLL] at hc1 ⊢;rw [hMM];have HLL:=Lib.hid hLL;have HMM:=Lib.hid hMM;have HC1:=Lib.hid hc1
 obtain ⟨NL,hNL⟩:∃ x,LL.length=x:=⟨_,rfl⟩
 obtain ⟨NM,hNM⟩:∃ x,MM.length=x:=⟨_,rfl⟩
 have hnl:NL≤65536:=by rw [← hNL];exact HLB.out
 have hnm:NM≤65536:=by rw [← hNM];exact HMB.out
 have HNL:=Lib.hid hNL;have HNM:=Lib.hid hNM;clear i j hp hLL hMM hc1 hNL hNM
 go_enter Tryz.func80,Tryz.ntmps80
 go_wp2_with fail
 refine HC1.out.mono ?_
 rintro e w1 ⟨v1,rfl,ho1,hb1⟩
 obtain ⟨a1,cc1,rfl⟩:=ho1.shapeN NL (by rw [List.length_map];exact HNL.out)
 have HRD1:=Lib.hid ho1.rd;have HB1:=Lib.hid hb1;replace c11:=cel hb1 c11;replace d11:=cel hb1 d11
 have HI1:=Lib.hid (HI.out.below hb1)
 have HJ1:=Lib.hid (HJ.out.below hb1)
 clear ho1 hb1 HC1;go_wp2_with fail
 go_loopw [7,21] (fun cv iv wr=>∃ k:Nat,k≤NL∧iv = .int .i64 k∧cv = .int .i64 ((((LL.take k).filter (fU MM)).length:Nat):Int)∧Hid (Below w1.heap.size w1 wr)) (fun _ iv _=>NL - (intOf iv).toNat)
 case atStart=>exact ⟨0,by omega,rfl,by simp,Below.refl _ _⟩
 case round=>
  obtain ⟨wB,hwB⟩:∃ x:World,x=w1:=⟨_,rfl⟩
  subst hwB
  obtain ⟨k,hk,rfl,rfl,HB⟩:=hrel
  by_cases hlt:k < NL
  ·have dl:decide ((k:Int) < (NL:Int))=true:=decide_eq_true (by omega)
   obtain ⟨b,o,rfl,hc⟩:=(HRD1.out.below HB.out).cell k hlt
   have hwf:=HRD1.out.wfAt k hlt
   obtain ⟨x,HX⟩:∃ x,Hid (LL[k]?=some x):=⟨LL[k]'(by have:=HNL.out;omega),List.getElem?_eq_getElem (by have:=HNL.out;omega)⟩
   have hnx:nth (LL.map Prod.fst) k=x.1:=by
    have h1:(LL.map Prod.fst)[k]?=some x.1:=by rw [List.getElem?_map,HX.out];rfl
    have h2:=(List.getElem?_eq_some_iff.1 h1)
    rw [nth_eq h2.1,h2.2]
   rw [hnx] at hc hwf
   obtain ⟨xn,xb⟩:=x
   replace hc:wr.cell? _=some (.int .i64 xn):=hc
   replace hwf:(Lit.int .i64 xn).wf=true:=hwf
   have HKX:Hid (kget LL xn=some xb):=(kget_iff HLS.out).2 (List.mem_of_getElem? HX.out)
   have hft:=filter_take (fU MM) LL k _ HX.out
   have hfl:=filterK_le (fU MM) LL k
   obtain ⟨C,hC⟩:∃ x,((LL.take k).filter (fU MM)).length=x:=⟨_,rfl⟩
   rw [hC] at hft hfl ⊢
   have hba:=below_a wr (.cells #[.int .i64 p,.int .i64 xn] 136)
   have hrow:=heap_alloc_new wr (.cells #[.int .i64 p,.int .i64 xn] 136)
   obtain ⟨W2,hW2⟩:∃ x,wr.alloc (.cells #[.int .i64 p,.int .i64 xn] 136)=x:=⟨_,rfl⟩
   obtain ⟨bb,hbb⟩:∃ x,wr.heap.size=x:=⟨_,rfl⟩
   rw [hW2] at hba hrow;rw [hbb] at hrow
   have q0:W2.cell? ⟨bb,0,none⟩=some (.int .i64 p):=cell_of_row W2 bb 0 _ _ _ hrow
   have q1:W2.cell? ⟨bb,1,none⟩=some (.int .i64 xn):=cell_of_row W2 bb 1 _ _ _ hrow
   have hB2:=Below.call HB.out hba
   have HB2:=Lib.hid hB2
   have hi2:=HI1.out.below hB2
   have hj2:=HJ1.out.below hB2
   have C11:=Lib.hid (cel hB2 c11)
   have D11:=Lib.hid (cel hB2 d11)
   obtain ⟨la,lm,lc,hlk,hlb⟩:=hi2.lookPB p xn HP.out hwf
   obtain ⟨ma,mm,mc,hlk2,hlb2⟩:=hj2.lookPB p xn HP.out hwf
   rw [HLL.out] at hlb hlk;rw [HMM.out] at hlb2 hlk2
   have HLA:=Lib.hid (hlb _ HKX.out)
   have HLK:=Lib.hid hlk;have HLK2:=Lib.hid hlk2;have HLB2:=Lib.hid hlb2;have HW2:=Lib.hid hW2;have HFT:=Lib.hid hft
   obtain ⟨OM,hOM⟩:∃ x,kget MM xn=x:=⟨_,rfl⟩
   have HOM:=Lib.hid hOM;rw [hOM] at HLK2;clear hba hrow hW2 hB2 hi2 hj2 hlk hlb hlk2 hlb2 hft hC hOM c11 d11 hnx hwf;go_wp2_with fail;rw [HW2.out]
   refine' reg_free (G:=Kept) (pickF [eqV _,eqV _,eqV _,eqV _,eqV _,eqV _,eqV _,eqV _,eqV _,eqV _,eqV _]) [29,30,31,32,33,34,28,35,36,11,12] [[],[0],[1],[2],[],[3,4],[5],[6],[6],[7],[8]] [0,1,2,3,4,5,6,7,8,9,10] (by kernel_rfl) Kept.refl Kept.trans (pick_stays ⟨eS _,eS _,eS _,eS _,eS _,eS _,eS _,eS _,eS _,eS _,eS _,trivial⟩) 78 rfl (by kernel_rfl) (by kernel_rfl) rfl rfl ?r1obl ?r1fin
   case r1obl=>
    refine ⟨?r1o0,?r1o1,?r1o2,?r1o3,?r1o4,?r1o5,?r1o6,?r1o7,?r1o8,?r1o9,?r1o10,trivial⟩
    case r1o0=>
     intro w1 hG;refine t1o (by rfl) ?_;intro K hK;go_simp;refine hK _ _ ⟨rfl,Kept.refl _,?_⟩;show _=_;simp only [gv1];rfl
    case r1o1 | r1o2=>
     intro w1 hG;intro va ha;change _=_ at ha;subst ha;refine t1o (by rfl) ?_;intro K hK;simp only [gv2];go_simp;refine hK _ _ ⟨rfl,Kept.refl _,?_⟩;show _=_;simp only [gv1];rfl
    case r1o3=>
     intro w1 hG;intro v2 h2;change _=_ at h2;subst h2;refine t1o (by rfl) ?_;intro K hK;simp only [gv2]
     have hcc:=cel (kept_0 hG) D11.out
     go_simp;refine hK _ _ ⟨rfl,Kept.refl _,?_⟩;show _=_;simp only [gv1];rfl
    case r1o4=>
     intro w1 hG;refine t1o (by rfl) ?_;intro K hK
     have hcc:=cel (kept_0 hG) q0
     have hcc1:=cel (kept_0 hG) q1
     go_simp;refine hK _ _ ⟨rfl,Kept.refl _,?_⟩;show _=_;simp only [gv1];rfl
    case r1o5=>
     intro w1 hG;intro v3 h3;change _=_ at h3;subst h3;intro v4 h4;change _=_ at h4;subst h4;refine t1o (by rfl) ?_;intro K hK;simp only [gv2]
     have hlk:=(HLK2.out w1 (kept_0 hG)).1
     go_simp;refine hK _ _ ⟨rfl,Kept.refl _,?_⟩;show _=_;simp only [gv1];rfl
    case r1o6 | r1o7 | r1o8 | r1o9 | r1o10=>
     intro w1 hG;intro va ha;change _=_ at ha;subst ha;refine t1o (by rfl) ?_;intro K hK;simp only [gv2];go_simp;refine hK _ _ ⟨rfl,Kept.refl _,?_⟩;show _=_;simp only [gv1];rfl
   intro w1 hG;intro v0 h0;change _=_ at h0;subst h0;intro v1 h1;change _=_ at h1;subst h1;intro v2 h2;change _=_ at h2;subst h2;intro v3 h3;change _=_ at h3;subst h3;intro v4 h4;change _=_ at h4;subst h4;intro v5 h5;change _=_ at h5;subst h5;intro v6 h6;change _=_ at h6;subst h6;intro v7 h7;change _=_ at h7;subst h7;intro v8 h8;change _=_ at h8;subst h8
   intro v9 h9;change _=_ at h9;subst h9;intro v10 h10;change _=_ at h10;subst h10
   simp only [Given,gv2]
   have hb6:=kept_0 hG
   have HB6:=Lib.hid (Below.call HB2.out hb6)
   have HBW:=Lib.hid hb6;replace q0:=cel hb6 q0;replace q1:=cel hb6 q1
   have HLA6:=Lib.hid (HLA.out.below hb6)
   obtain ⟨wC,hwC⟩:∃ x:World,x=w1:=⟨_,rfl⟩
   subst hwC;clear hG hb6
   cases OM with
   | none=>
    have HF1:Hid (C+1=((LL.take (k+1)).filter (fU MM)).length):=by
     show _=_
     rw [HFT.out,if_pos (by unfold fU;rw [HOM.out];rfl)]
    clear q0 q1
    simp only [Option.isSome_none] at *
    go_wp2_with fail;go_quiet (fail);go_wp2_with fail
    go_roundw
    case rel=>exact ⟨k+1,by omega,by go_num,by rw [← HF1.out];go_num,belowNp HB6.out _⟩
    case measure=>simp [intOf] <;> omega
   | some xb2=>
    have HMB2:=Lib.hid ((HLB2.out xb2 HOM.out).below HBW.out)
    simp only [Option.isSome_some] at *
    obtain ⟨QB,hQB⟩:∃ x,decide (xb2=xb)=x:=⟨_,rfl⟩
    have HQB:=Lib.hid hQB;clear hQB
    have C11C:=Lib.hid (cel HBW.out C11.out)
    go_wp2_with fail
    refine' reg_free (G:=Kept) (pickF [eqV _,eqV _,eqV _,eqV _,eqV _,eqV _,eqV _,eqV _,eqV _,eqV _,eqV _,eqV _,eqV _]) [37,38,39,40,41,42,43,44,45,46,47,48,49] [[],[0],[1],[2],[2],[2,4],[2,5],[2,6],[2],[2,7,8],[2,3,9],[2,10],[2,11]] [0,1,2,3,4,5,6,7,8,9,10,11,12] (by kernel_rfl) Kept.refl Kept.trans (pick_stays ⟨eS _,eS _,eS _,eS _,eS _,eS _,eS _,eS _,eS _,eS _,eS _,eS _,eS _,trivial⟩) 78 rfl (by kernel_rfl) (by kernel_rfl) rfl rfl ?r2obl ?r2fin
    case r2obl=>
     refine ⟨?r2o0,?r2o1,?r2o2,?r2o3,?r2o4,?r2o5,?r2o6,?r2o7,?r2o8,?r2o9,?r2o10,?r2o11,?r2o12,trivial⟩
     case r2o0=>
      intro w1 hG;refine t1o (by rfl) ?_;intro K hK;go_simp;refine hK _ _ ⟨rfl,Kept.refl _,?_⟩;show _=_;simp only [gv1];rfl
     case r2o1 | r2o2 | r2o3 | r2o4=>
      intro w1 hG;intro va ha;change _=_ at ha;subst ha;refine t1o (by rfl) ?_;intro K hK;simp only [gv2];go_simp;refine hK _ _ ⟨rfl,Kept.refl _,?_⟩;show _=_;simp only [gv1];rfl
     case r2o5 | r2o6=>
      intro w1 hG;intro va ha;change _=_ at ha;subst ha;intro vb hb;change _=_ at hb;subst hb;refine t1o (by rfl) ?_;intro K hK;simp only [gv2];go_simp;refine hK _ _ ⟨rfl,Kept.refl _,?_⟩;show _=_;simp only [gv1];rfl
     case r2o7=>
      intro w1 hG;intro v2 h2;change _=_ at h2;subst h2;intro v6 h6;change _=_ at h6;subst h6;refine t1o (by rfl) ?_;intro K hK;simp only [gv2]
      have hcc:=cel (kept_0 hG) C11C.out
      go_simp;refine hK _ _ ⟨rfl,Kept.refl _,?_⟩;show _=_;simp only [gv1];rfl
     case r2o8=>
      intro w1 hG;intro v2 h2;change _=_ at h2;subst h2;refine t1o (by rfl) ?_;intro K hK;simp only [gv2]
      have hcc:=cel (kept_0 hG) q0
      have hcc1:=cel (kept_0 hG) q1
      go_simp;refine hK _ _ ⟨rfl,Kept.refl _,?_⟩;show _=_;simp only [gv1];rfl
     case r2o9=>
      intro w1 hG;intro v2 h2;change _=_ at h2;subst h2;intro v7 h7;change _=_ at h7;subst h7;intro v8 h8;change _=_ at h8;subst h8;refine t1o (by rfl) ?_;intro K hK;simp only [gv2]
      have hlk:=(HLK.out w1 (HBW.out.trans ((kept_0 hG).mono HBW.out.size))).2
      go_simp;refine hK _ _ ⟨rfl,Kept.refl _,?_⟩;show _=_;simp only [gv1];rfl
     case r2o10=>
      intro w1 hG;intro v2 h2;change _=_ at h2;subst h2;intro v3 h3;change _=_ at h3;subst h3;intro v9 h9;change _=_ at h9;subst h9;refine t1o (by rfl) ?_;intro K hK;simp only [gv2];go_simp
      refine Calls.mono (bytesEq_any ma mm mc _ la lm lc _ w1 (HMB2.out.below (kept_0 hG)) (HLA6.out.below (kept_0 hG))) ?_
      rintro e w2 ⟨rfl,rfl⟩
      rw [HQB.out];refine hK _ _ ⟨rfl,Kept.refl _,?_⟩;show _=_;simp only [gv1];rfl
     case r2o11 | r2o12=>
      intro w1 hG;intro va ha;change _=_ at ha;subst ha;intro vb hb;change _=_ at hb;subst hb;refine t1o (by rfl) ?_;intro K hK;simp only [gv2];go_simp;refine hK _ _ ⟨rfl,Kept.refl _,?_⟩;show _=_;simp only [gv1];rfl
    intro w1 hG;intro v0 h0;change _=_ at h0;subst h0;intro v1 h1;change _=_ at h1;subst h1;intro v2 h2;change _=_ at h2;subst h2;intro v3 h3;change _=_ at h3;subst h3;intro v4 h4;change _=_ at h4;subst h4;intro v5 h5;change _=_ at h5;subst h5;intro v6 h6;change _=_ at h6;subst h6;intro v7 h7;change _=_ at h7;subst h7;intro v8 h8;change _=_ at h8;subst h8
    intro v9 h9;change _=_ at h9;subst h9;intro v10 h10;change _=_ at h10;subst h10;intro v11 h11;change _=_ at h11;subst h11;intro v12 h12;change _=_ at h12;subst h12
    simp only [Given,gv2]
    have HB7:=Lib.hid (Below.call HB6.out (kept_0 hG))
    clear hG q0 q1
    cases QB with
    | true=>
     have HF1:Hid (C=((LL.take (k+1)).filter (fU MM)).length):=by
      show _=_
      have e1:=of_decide_eq_true HQB.out
      rw [HFT.out,if_neg (by unfold fU;rw [HOM.out,e1];simp)]
      rfl
     go_wp2_with fail
     go_roundw
     case rel=>exact ⟨k+1,by omega,by go_num,by rw [← HF1.out],HB7⟩
     case measure=>simp [intOf] <;> omega
    | false=>
     have HF1:Hid (C+1=((LL.take (k+1)).filter (fU MM)).length):=by
      show _=_
      have e1:=HQB.out
      rw [decide_eq_false_iff_not] at e1
      rw [HFT.out,if_pos (by unfold fU;rw [HOM.out];simpa using e1)]
     go_wp2_with fail
     go_roundw
     case rel=>exact ⟨k+1,by omega,by go_num,by rw [← HF1.out];go_num,HB7⟩
     case measure=>simp [intOf] <;> omega
  ·obtain rfl:k=NL:=by omega
   have dl:decide ((k:Int) < (k:Int))=false:=decide_eq_false (by omega)
   have htk:LL.take k=LL:=List.take_of_length_le (by have:=HNL.out;omega)
   rw [htk]
   have hle:=List.length_filter_le (fU MM) LL
   rw [HNL.out] at hle
   obtain ⟨U1,hU1⟩:∃ x,(LL.filter (fU MM)).length=x:=⟨_,rfl⟩
   rw [hU1] at hle ⊢;have HU1:=Lib.hid hU1
   have HI3:=Lib.hid (HI1.out.below HB.out)
   have HJ3:=Lib.hid (HJ1.out.below HB.out)
   replace c11:=cel HB.out c11
   have hc3:=stored_any HJ3.out p
   rw [HMM.out] at hc3;have HC3:=Lib.hid hc3
   obtain ⟨wL,hwL⟩:∃ x:World,x=wr:=⟨_,rfl⟩
   subst hwL;clear htk hU1 hc3 d11;go_wp2_with fail
   refine HC3.out.mono ?_
   rintro e w4 ⟨v4,rfl,ho4,hb4⟩
   obtain ⟨a4,cc4,rfl⟩:=ho4.shapeN NM (by rw [List.length_map];exact HNM.out)
   have HRD4:=Lib.hid ho4.rd
   have HB4:=Lib.hid (Below.call HB.out hb4)
   have HI4:=Lib.hid (HI3.out.below hb4)
   replace c11:=cel hb4 c11;clear ho4 hb4 HC3;go_wp2_with fail
   go_loopw [7,57] (fun cv iv wr=>∃ k2:Nat,k2≤NM∧iv = .int .i64 k2∧cv = .int .i64 ((U1+((MM.take k2).filter (gU LL)).length:Nat):Int)∧Hid (Below w4.heap.size w4 wr)) (fun _ iv _=>NM - (intOf iv).toNat)
   case atStart=>exact ⟨0,by omega,rfl,by simp,Below.refl _ _⟩
   case round=>
    obtain ⟨k2,hk2,rfl,rfl,HBR⟩:=hrel
    by_cases hlt2:k2 < NM
    ·have dl:decide ((k2:Int) < (NM:Int))=true:=decide_eq_true (by omega)
     obtain ⟨b,o,rfl,hc⟩:=(HRD4.out.below HBR.out).cell k2 hlt2
     have hwf:=HRD4.out.wfAt k2 hlt2
     obtain ⟨x,HX⟩:∃ x,Hid (MM[k2]?=some x):=⟨MM[k2]'(by have:=HNM.out;omega),List.getElem?_eq_getElem (by have:=HNM.out;omega)⟩
     have hnx:nth (MM.map Prod.fst) k2=x.1:=by
      have h1:(MM.map Prod.fst)[k2]?=some x.1:=by rw [List.getElem?_map,HX.out];rfl
      have h2:=(List.getElem?_eq_some_iff.1 h1)
      rw [nth_eq h2.1,h2.2]
     rw [hnx] at hc hwf
     obtain ⟨xn,xb⟩:=x
     replace hc:wr.cell? _=some (.int .i64 xn):=hc
     replace hwf:(Lit.int .i64 xn).wf=true:=hwf
     have hft:=filter_take (gU LL) MM k2 _ HX.out
     have hfl:=filterK_le (gU LL) MM k2
     obtain ⟨C,hC⟩:∃ x,((MM.take k2).filter (gU LL)).length=x:=⟨_,rfl⟩
     rw [hC] at hft hfl ⊢
     obtain ⟨T,hT⟩:∃ x,U1+C=x:=⟨_,rfl⟩
     have htb:T≤131072:=by omega
     rw [hT]
     obtain ⟨la,lm,lc,hlk,_⟩:=(HI4.out.below HBR.out).lookPB p xn HP.out hwf
     rw [HLL.out] at hlk
     obtain ⟨OM,hOM⟩:∃ x,kget LL xn=x:=⟨_,rfl⟩
     rw [hOM] at hlk
     have hlk:=(hlk wr (Below.refl _ _)).1
     have C11:=cel HBR.out c11
     have HFT:=Lib.hid hft;have HOM:=Lib.hid hOM;have HT:=Lib.hid hT;clear hft hC hOM hT hnx hwf
     cases OM with
     | none=>
      have HF1:Hid (T+1=U1+((MM.take (k2+1)).filter (gU LL)).length):=by
       show _=_
       rw [HFT.out,if_pos (by unfold gU;rw [HOM.out];rfl),← HT.out]
       rfl
      simp only [Option.isSome_none] at *
      go_wp2_with fail
      go_roundw
      case rel=>exact ⟨k2+1,by omega,by go_num,by rw [← HF1.out];go_num,HBR⟩
      case measure=>simp [intOf] <;> omega
     | some xb2=>
      have HF1:Hid (T=U1+((MM.take (k2+1)).filter (gU LL)).length):=by
       show _=_
       rw [HFT.out,if_neg (by unfold gU;rw [HOM.out];simp),← HT.out]
       rfl
      simp only [Option.isSome_some] at *
      go_wp2_with fail
      go_roundw
      case rel=>exact ⟨k2+1,by omega,by go_num,by rw [← HF1.out],HBR⟩
      case measure=>simp [intOf] <;> omega
    ·obtain rfl:k2=NM:=by omega
     have htk:MM.take k2=MM:=List.take_of_length_le (by have:=HNM.out;omega)
     rw [htk];go_wp2_with fail
     go_ret
     refine ⟨by unfold unlM;rw [HU1.out];rfl,HB1.out.trans ((HB4.out.trans (HBR.out.mono HB4.out.size)).mono HB1.out.size)⟩
end
end Go.Proofs.YtnbjodoajfkekaaGreat
