/- The document's machine: whether bytes may be used in some ways (bytes). Whether an operation has just its kind's fields, by the document. -/
import Derived.Test.YtoepnbfifjgpfaaGreatMu0
import Derived.Test.YtoepnbfifjgpfaaGreatMp2
import Derived.Test.YtoepnbfifjgpfaaGreatMu16
import Derived.Test.YtoepnbfifjgpfaaGreatMu13
import Derived.Test.YtoepnbfifjgpfaaGreatMu2
import Derived.WalkKit
import Derived.ProofKit
import Derived.BigQuiet
import Derived.Deep.QuietTactic
import Derived.Lib.Hide
import Derived.RegionTactic
import Derived.Test.YtoepnbfifjgpfaaGreatMu17
namespace Go.Proofs.YtoepnbfifjgpfaaGreat
set_option maxRecDepth 100000
open Go.RowKit
set_option linter.unusedSimpArgs false
section
variable {No:Nat→Prop} {h:RmH} {st:Mc} {w:World}
set_option maxHeartbeats 2000000 in
theorem rbytesE_any (i:RmIn w No h st) (q:Int) (hq:st.has q=true) (k n ways:Int) (hk:(Lit.int .i64 k).wf=true) (hn:(Lit.int .i64 n).wf=true) :
  Calls Tryz.prog 53 #[.pointer (some ⟨h.m,0,none⟩),.pointer (some ⟨(h.pr q).b,0,none⟩),.int .i64 k,.int .i64 n,.int .i64 ways] w fun e w'=>e = .returned (.int .i64 (bytesE st.c (st.rs q) k n ways))∧Below w.heap.size w w':=by
 obtain ⟨c4,_,_,c8,_,_⟩:=i.cells
 have hpg:=i.ok.cf.page
 have hps:=i.ok.cf.pages
 have hcn:=i.ok.cn q
 have hcr:=i.ok.cf.regions
 have ha1:st.c.pages * st.c.page≤65536 * 4096:=Int.mul_le_mul hps.2 hpg.2 (by omega) (by omega)
 have ha0:0≤st.c.pages * st.c.page:=Int.mul_nonneg (by omega) (by omega)
 have hk1:=wf_i64_bd hk
 have hn1:=wf_i64_bd hn
 obtain ⟨ra,rn,rc,la,lc,z0,_,hsl,_⟩:=(i.pr q hq).cell
 have hrn:rn≤1000:=by have h1:=hsl.1.len;have h2:=hcn.few;omega
 obtain ⟨BB,hBB⟩:∃ x,(h.pr q).b=x:=⟨_,rfl⟩
 rw [hBB] at z0 ⊢
 obtain ⟨PG,hPG⟩:∃ x,st.c.page=x:=⟨_,rfl⟩
 obtain ⟨PS,hPS⟩:∃ x,st.c.pages=x:=⟨_,rfl⟩
 obtain ⟨E,hE⟩:∃ x,bytesE st.c (st.rs q) k n ways=x:=⟨_,rfl⟩
 rw [hE]
 unfold bytesE at hE
 rw [hPG] at c4 hpg ha1 ha0 hE;rw [hPS] at c8 hps ha1 ha0 hE
 obtain ⟨A,hA⟩:∃ x,PS * PG=x:=⟨_,rfl⟩
 rw [hA] at ha1 ha0 hE
 have hwA:IntKind.i64.wrap A=A:=by rw [IntKind.wrap_i64];omega
 have QB:=Lib.hid (fun q=>belowNp (Below.refl w.heap.size w) q)
 have HR:Hid (RdS Rg.cells 3 w ra rn rc (st.rs q)):=hsl.1
 have HCN:=Lib.hid hcn;clear i hsl hcn hBB hPG hPS hq hk hn hcr
 by_cases e0:n < 0
 ·rw [if_pos (by omega)] at hE
  subst hE
  have d0:decide (n < 0)=true:=decide_eq_true e0
  clear e0
  go_enter Tryz.func53,Tryz.ntmps53
  go_wp2
  go_quiet (fail)
  go_wp2
  go_ret
  exact ⟨rfl,QB.out _⟩
 have d0:decide (n < 0)=false:=decide_eq_false e0
 by_cases e1:1048576 < n
 ·rw [if_pos (by omega)] at hE
  subst hE
  have d1:decide (1048576 < n)=true:=decide_eq_true e1
  clear e1
  go_enter Tryz.func53,Tryz.ntmps53
  go_wp2
  go_quiet (fail)
  go_wp2
  go_ret
  exact ⟨rfl,QB.out _⟩
 have d1:decide (1048576 < n)=false:=decide_eq_false e1
 by_cases e2:k < 0
 ·rw [if_pos (by omega)] at hE
  subst hE
  have d2:decide (k < 0)=true:=decide_eq_true e2
  clear e2
  go_enter Tryz.func53,Tryz.ntmps53
  go_wp2
  go_quiet (fail)
  go_wp2
  go_ret
  exact ⟨rfl,QB.out _⟩
 have d2:decide (k < 0)=false:=decide_eq_false e2
 by_cases e3:A < k
 ·rw [if_pos (by omega)] at hE
  subst hE
  have d3:decide (A < k)=true:=decide_eq_true e3
  clear e3
  go_enter Tryz.func53,Tryz.ntmps53
  go_wp2
  go_quiet (fail)
  go_wp2
  go_ret
  exact ⟨rfl,QB.out _⟩
 have d3:decide (A < k)=false:=decide_eq_false e3
 by_cases e4:A - k < n
 ·rw [if_pos (by omega)] at hE
  subst hE
  have d4:decide (A - k < n)=true:=decide_eq_true e4
  clear e4
  go_enter Tryz.func53,Tryz.ntmps53
  go_wp2
  go_quiet (fail)
  go_wp2
  go_ret
  exact ⟨rfl,QB.out _⟩
 have d4:decide (A - k < n)=false:=decide_eq_false e4
 rw [if_neg (by omega)] at hE
 by_cases e5:n=0
 ·rw [if_neg (fun h=>by have:=h.1;omega)] at hE
  subst hE
  have b5:(n == 0)=true:=by simpa using e5
  clear e5
  go_enter Tryz.func53,Tryz.ntmps53
  go_wp2
  go_quiet (fail)
  go_wp2
  go_ret
  exact ⟨rfl,QB.out _⟩
 have hn0:0 < n:=by omega
 have b5:(n == 0)=false:=by simpa using e5
 have hs1:IntKind.i64.wrap (k+n)=k+n:=by rw [IntKind.wrap_i64];omega
 have hs2:IntKind.i64.wrap (k+n - 1)=k+n - 1:=by rw [IntKind.wrap_i64];omega
 have hq1:k.tdiv PG=k / PG:=Int.tdiv_eq_ediv_of_nonneg (by omega)
 have hq2:(k+n - 1).tdiv PG=(k+n - 1) / PG:=Int.tdiv_eq_ediv_of_nonneg (by omega)
 have hb1:0≤k / PG∧k / PG≤k:=⟨Int.ediv_nonneg (by omega) (by omega),Int.ediv_le_self _ (by omega)⟩
 have hb2:0≤(k+n - 1) / PG∧(k+n - 1) / PG≤k+n - 1:=⟨Int.ediv_nonneg (by omega) (by omega),Int.ediv_le_self _ (by omega)⟩
 have hs3:IntKind.i64.wrap (k / PG)=k / PG:=by rw [IntKind.wrap_i64];omega
 have hs4:IntKind.i64.wrap ((k+n - 1) / PG)=(k+n - 1) / PG:=by rw [IntKind.wrap_i64];omega
 have hs5:IntKind.i64.wrap ((k+n - 1) / PG+1)=(k+n - 1) / PG+1:=by rw [IntKind.wrap_i64];omega
 have HLO:Hid ((Lit.int .i64 (k / PG)).wf=true):=WalkArith.wf_i64 ⟨by omega,by omega⟩
 have HHI:Hid ((Lit.int .i64 ((k+n - 1) / PG+1)).wf=true):=WalkArith.wf_i64 ⟨by omega,by omega⟩
 have hz:¬ PG=0:=by omega
 rw [all_ref HCN.out.canon.rising hb1.1] at hE;clear hb1 hb2 e5
 obtain ⟨B,hB⟩:∃ x,refAll (st.rs q) (k / PG) ((k+n - 1) / PG+1) (okW ways)=x:=⟨_,rfl⟩
 rw [hB] at hE;have HB:=Lib.hid hB;clear hB
 cases B with
 | false=>
  rw [if_pos ⟨hn0,rfl⟩] at hE;subst hE
  go_enter Tryz.func53,Tryz.ntmps53
  go_wp2
  go_quiet (fail);go_wp2_with fail
  refine' reg_free (G:=Kept) (pickF [eqV _,eqV _,eqV _,eqV _,eqV _,eqV _,eqV _,eqV _,eqV _,eqV _,eqV _,eqV _,eqV _,eqV _,eqV _,eqV _,eqV _,eqV _,eqV _,eqV _,eqV _,eqV _,eqV _,eqV _,eqV _]) [47,48,49,50,51,52,53,54,55,56,57,58,59,60,61,62,63,64,65,66,67,68,69,70,71] [[],[0],[1],[2],[],[],[5],[6],[7],[8],[4,9],[],[],[11,12],[13],[],[15],[16],[17],[18],[14,19],[20],[],[3,10,21,22],[23]] [0,1,2,3,4,5,6,7,8,9,10,11,12,13,14,15,16,17,18,19,20,21,22,23,24] (by kernel_rfl) Kept.refl Kept.trans (pick_stays ⟨eS _,eS _,eS _,eS _,eS _,eS _,eS _,eS _,eS _,eS _,eS _,eS _,eS _,eS _,eS _,eS _,eS _,eS _,eS _,eS _,eS _,eS _,eS _,eS _,eS _,trivial⟩) 72 rfl (by kernel_rfl) (by kernel_rfl) rfl rfl ?r1obl ?r1fin
  case r1obl=>
   refine ⟨?r1o0,?r1o1,?r1o2,?r1o3,?r1o4,?r1o5,?r1o6,?r1o7,?r1o8,?r1o9,?r1o10,?r1o11,?r1o12,?r1o13,?r1o14,?r1o15,?r1o16,?r1o17,?r1o18,?r1o19,?r1o20,?r1o21,?r1o22,?r1o23,?r1o24,trivial⟩
   case r1o0 | r1o4 | r1o5 | r1o11 | r1o12 | r1o15 | r1o22=>
    intro w1 hG;refine t1o (by rfl) ?_;intro K hK;go_simp;refine hK _ _ ⟨rfl,Kept.refl _,?_⟩;show _=_;simp only [gv1];rfl
   case r1o1 | r1o2=>
    intro w1 hG;intro va ha;change _=_ at ha;subst ha;refine t1o (by rfl) ?_;intro K hK;simp only [gv2];go_simp;refine hK _ _ ⟨rfl,Kept.refl _,?_⟩;show _=_;simp only [gv1];rfl
   case r1o3=>
    intro w1 hG;intro v2 h2;change _=_ at h2;subst h2;refine t1o (by rfl) ?_;intro K hK;simp only [gv2]
    have hGB:=kept_n hG
    have hc:=cel hGB z0
    go_simp;refine hK _ _ ⟨rfl,Kept.refl _,?_⟩;show _=_;simp only [gv1];rfl
   case r1o6 | r1o7 | r1o8=>
    intro w1 hG;intro va ha;change _=_ at ha;subst ha;refine t1o (by rfl) ?_;intro K hK;simp only [gv2];go_simp;refine hK _ _ ⟨rfl,Kept.refl _,?_⟩;show _=_;simp only [gv1];rfl
   case r1o9=>
    intro w1 hG;intro v8 h8;change _=_ at h8;subst h8;refine t1o (by rfl) ?_;intro K hK;simp only [gv2]
    have hGB:=kept_n hG
    have hc:=cel hGB c4
    go_simp;refine hK _ _ ⟨rfl,Kept.refl _,?_⟩;show _=_;simp only [gv1];rfl
   case r1o10 | r1o13=>
    intro w1 hG;intro va ha;change _=_ at ha;subst ha;intro vb hb;change _=_ at hb;subst hb;refine t1o (by rfl) ?_;intro K hK;simp only [gv2];go_simp;refine hK _ _ ⟨rfl,Kept.refl _,?_⟩;show _=_;simp only [gv1];rfl
   case r1o14 | r1o16 | r1o17 | r1o18=>
    intro w1 hG;intro va ha;change _=_ at ha;subst ha;refine t1o (by rfl) ?_;intro K hK;simp only [gv2];go_simp;refine hK _ _ ⟨rfl,Kept.refl _,?_⟩;show _=_;simp only [gv1];rfl
   case r1o19=>
    intro w1 hG;intro v18 h18;change _=_ at h18;subst h18;refine t1o (by rfl) ?_;intro K hK;simp only [gv2]
    have hGB:=kept_n hG
    have hc:=cel hGB c4
    go_simp;refine hK _ _ ⟨rfl,Kept.refl _,?_⟩;show _=_;simp only [gv1];rfl
   case r1o20=>
    intro w1 hG;intro va ha;change _=_ at ha;subst ha;intro vb hb;change _=_ at hb;subst hb;refine t1o (by rfl) ?_;intro K hK;simp only [gv2];go_simp;refine hK _ _ ⟨rfl,Kept.refl _,?_⟩;show _=_;simp only [gv1];rfl
   case r1o21=>
    intro w1 hG;intro va ha;change _=_ at ha;subst ha;refine t1o (by rfl) ?_;intro K hK;simp only [gv2];go_simp;refine hK _ _ ⟨rfl,Kept.refl _,?_⟩;show _=_;simp only [gv1];rfl
   case r1o23=>
    intro w1 hG;intro v3 h3;change _=_ at h3;subst h3;intro v10 h10;change _=_ at h10;subst h10;intro v21 h21;change _=_ at h21;subst h21;intro v22 h22;change _=_ at h22;subst h22;refine t1o (by rfl) ?_;intro K hK;simp only [gv2];go_simp
    refine Calls.mono (refall_any ra rn rc (st.rs q) (k / PG) ((k+n - 1) / PG+1) ways w1 (HR.out.below (kept_n hG)) hrn HCN.out.wf HLO.out HHI.out) ?_
    rintro e w2 ⟨rfl,hb⟩
    rw [HB.out]
    refine hK _ _ ⟨rfl,hb,?_⟩
    show _=_;simp only [gv1];rfl
   case r1o24=>
    intro w1 hG;intro va ha;change _=_ at ha;subst ha;refine t1o (by rfl) ?_;intro K hK;simp only [gv2];go_simp;refine hK _ _ ⟨rfl,Kept.refl _,?_⟩;show _=_;simp only [gv1];rfl
  intro w1 hG;intro v0 h0;change _=_ at h0;subst h0;intro v1 h1;change _=_ at h1;subst h1;intro v2 h2;change _=_ at h2;subst h2;intro v3 h3;change _=_ at h3;subst h3;intro v4 h4;change _=_ at h4;subst h4;intro v5 h5;change _=_ at h5;subst h5;intro v6 h6;change _=_ at h6;subst h6;intro v7 h7;change _=_ at h7;subst h7;intro v8 h8;change _=_ at h8;subst h8
  intro v9 h9;change _=_ at h9;subst h9;intro v10 h10;change _=_ at h10;subst h10;intro v11 h11;change _=_ at h11;subst h11;intro v12 h12;change _=_ at h12;subst h12;intro v13 h13;change _=_ at h13;subst h13;intro v14 h14;change _=_ at h14;subst h14;intro v15 h15;change _=_ at h15;subst h15;intro v16 h16;change _=_ at h16;subst h16;intro v17 h17;change _=_ at h17
  subst h17;intro v18 h18;change _=_ at h18;subst h18;intro v19 h19;change _=_ at h19;subst h19;intro v20 h20;change _=_ at h20;subst h20;intro v21 h21;change _=_ at h21;subst h21;intro v22 h22;change _=_ at h22;subst h22;intro v23 h23;change _=_ at h23;subst h23;intro v24 h24;change _=_ at h24;subst h24
  simp only [Given,gv2]
  have HG:=Lib.hid (kept_n hG)
  clear hG
  go_wp2
  go_ret
  exact ⟨rfl,HG.out⟩
 | true=>
  rw [if_neg (by simp)] at hE;subst hE
  go_enter Tryz.func53,Tryz.ntmps53
  go_wp2
  go_quiet (fail);go_wp2_with fail
  refine' reg_free (G:=Kept) (pickF [eqV _,eqV _,eqV _,eqV _,eqV _,eqV _,eqV _,eqV _,eqV _,eqV _,eqV _,eqV _,eqV _,eqV _,eqV _,eqV _,eqV _,eqV _,eqV _,eqV _,eqV _,eqV _,eqV _,eqV _,eqV _]) [47,48,49,50,51,52,53,54,55,56,57,58,59,60,61,62,63,64,65,66,67,68,69,70,71] [[],[0],[1],[2],[],[],[5],[6],[7],[8],[4,9],[],[],[11,12],[13],[],[15],[16],[17],[18],[14,19],[20],[],[3,10,21,22],[23]] [0,1,2,3,4,5,6,7,8,9,10,11,12,13,14,15,16,17,18,19,20,21,22,23,24] (by kernel_rfl) Kept.refl Kept.trans (pick_stays ⟨eS _,eS _,eS _,eS _,eS _,eS _,eS _,eS _,eS _,eS _,eS _,eS _,eS _,eS _,eS _,eS _,eS _,eS _,eS _,eS _,eS _,eS _,eS _,eS _,eS _,trivial⟩) 72 rfl (by kernel_rfl) (by kernel_rfl) rfl rfl ?r2obl ?r2fin
  case r2obl=>
   refine ⟨?r2o0,?r2o1,?r2o2,?r2o3,?r2o4,?r2o5,?r2o6,?r2o7,?r2o8,?r2o9,?r2o10,?r2o11,?r2o12,?r2o13,?r2o14,?r2o15,?r2o16,?r2o17,?r2o18,?r2o19,?r2o20,?r2o21,?r2o22,?r2o23,?r2o24,trivial⟩
   case r2o0 | r2o4 | r2o5 | r2o11 | r2o12 | r2o15 | r2o22=>
    intro w1 hG;refine t1o (by rfl) ?_;intro K hK;go_simp;refine hK _ _ ⟨rfl,Kept.refl _,?_⟩;show _=_;simp only [gv1];rfl
   case r2o1 | r2o2=>
    intro w1 hG;intro va ha;change _=_ at ha;subst ha;refine t1o (by rfl) ?_;intro K hK;simp only [gv2];go_simp;refine hK _ _ ⟨rfl,Kept.refl _,?_⟩;show _=_;simp only [gv1];rfl
   case r2o3=>
    intro w1 hG;intro v2 h2;change _=_ at h2;subst h2;refine t1o (by rfl) ?_;intro K hK;simp only [gv2]
    have hGB:=kept_n hG
    have hc:=cel hGB z0
    go_simp;refine hK _ _ ⟨rfl,Kept.refl _,?_⟩;show _=_;simp only [gv1];rfl
   case r2o6 | r2o7 | r2o8=>
    intro w1 hG;intro va ha;change _=_ at ha;subst ha;refine t1o (by rfl) ?_;intro K hK;simp only [gv2];go_simp;refine hK _ _ ⟨rfl,Kept.refl _,?_⟩;show _=_;simp only [gv1];rfl
   case r2o9=>
    intro w1 hG;intro v8 h8;change _=_ at h8;subst h8;refine t1o (by rfl) ?_;intro K hK;simp only [gv2]
    have hGB:=kept_n hG
    have hc:=cel hGB c4
    go_simp;refine hK _ _ ⟨rfl,Kept.refl _,?_⟩;show _=_;simp only [gv1];rfl
   case r2o10 | r2o13=>
    intro w1 hG;intro va ha;change _=_ at ha;subst ha;intro vb hb;change _=_ at hb;subst hb;refine t1o (by rfl) ?_;intro K hK;simp only [gv2];go_simp;refine hK _ _ ⟨rfl,Kept.refl _,?_⟩;show _=_;simp only [gv1];rfl
   case r2o14 | r2o16 | r2o17 | r2o18=>
    intro w1 hG;intro va ha;change _=_ at ha;subst ha;refine t1o (by rfl) ?_;intro K hK;simp only [gv2];go_simp;refine hK _ _ ⟨rfl,Kept.refl _,?_⟩;show _=_;simp only [gv1];rfl
   case r2o19=>
    intro w1 hG;intro v18 h18;change _=_ at h18;subst h18;refine t1o (by rfl) ?_;intro K hK;simp only [gv2]
    have hGB:=kept_n hG
    have hc:=cel hGB c4
    go_simp;refine hK _ _ ⟨rfl,Kept.refl _,?_⟩;show _=_;simp only [gv1];rfl
   case r2o20=>
    intro w1 hG;intro va ha;change _=_ at ha;subst ha;intro vb hb;change _=_ at hb;subst hb;refine t1o (by rfl) ?_;intro K hK;simp only [gv2];go_simp;refine hK _ _ ⟨rfl,Kept.refl _,?_⟩;show _=_;simp only [gv1];rfl
   case r2o21=>
    intro w1 hG;intro va ha;change _=_ at ha;subst ha;refine t1o (by rfl) ?_;intro K hK;simp only [gv2];go_simp;refine hK _ _ ⟨rfl,Kept.refl _,?_⟩;show _=_;simp only [gv1];rfl
   case r2o23=>
    intro w1 hG;intro v3 h3;change _=_ at h3;subst h3;intro v10 h10;change _=_ at h10;subst h10;intro v21 h21;change _=_ at h21;subst h21;intro v22 h22;change _=_ at h22;subst h22;refine t1o (by rfl) ?_;intro K hK;simp only [gv2];go_simp
    refine Calls.mono (refall_any ra rn rc (st.rs q) (k / PG) ((k+n - 1) / PG+1) ways w1 (HR.out.below (kept_n hG)) hrn HCN.out.wf HLO.out HHI.out) ?_
    rintro e w2 ⟨rfl,hb⟩
    rw [HB.out]
    refine hK _ _ ⟨rfl,hb,?_⟩
    show _=_;simp only [gv1];rfl
   case r2o24=>
    intro w1 hG;intro va ha;change _=_ at ha;subst ha;refine t1o (by rfl) ?_;intro K hK;simp only [gv2];go_simp;refine hK _ _ ⟨rfl,Kept.refl _,?_⟩;show _=_;simp only [gv1];rfl
  intro w1 hG;intro v0 h0;change _=_ at h0;subst h0;intro v1 h1;change _=_ at h1;subst h1;intro v2 h2;change _=_ at h2;subst h2;intro v3 h3;change _=_ at h3;subst h3;intro v4 h4;change _=_ at h4;subst h4;intro v5 h5;change _=_ at h5;subst h5;intro v6 h6;change _=_ at h6;subst h6;intro v7 h7;change _=_ at h7;subst h7;intro v8 h8;change _=_ at h8;subst h8
  intro v9 h9;change _=_ at h9;subst h9;intro v10 h10;change _=_ at h10;subst h10;intro v11 h11;change _=_ at h11;subst h11;intro v12 h12;change _=_ at h12;subst h12;intro v13 h13;change _=_ at h13;subst h13;intro v14 h14;change _=_ at h14;subst h14;intro v15 h15;change _=_ at h15;subst h15;intro v16 h16;change _=_ at h16;subst h16;intro v17 h17;change _=_ at h17
  subst h17;intro v18 h18;change _=_ at h18;subst h18;intro v19 h19;change _=_ at h19;subst h19;intro v20 h20;change _=_ at h20;subst h20;intro v21 h21;change _=_ at h21;subst h21;intro v22 h22;change _=_ at h22;subst h22;intro v23 h23;change _=_ at h23;subst h23;intro v24 h24;change _=_ at h24;subst h24
  simp only [Given,gv2]
  have HG:=Lib.hid (kept_n hG)
  clear hG
  go_wp2
  go_ret
  exact ⟨rfl,HG.out⟩
end
section
variable (pid ad n pr:Int) (a:Option Addr) (dn dc:Nat) (w:World)
set_option maxHeartbeats 1000000 in
theorem refright_1 (B:Bool) (hB:(decide (pid=0) && (decide (ad=0) && (decide (n=0) && (decide (pr=0) && decide (dn=0)))))=B):Calls Tryz.prog 52 #[.agg #[.int .i64 1,.int .i64 pid,.int .i64 ad,.int .i64 n,.int .i64 pr,.slice a dn dc]] w fun e w'=>e = .returned (.bool B)∧Below w.heap.size w w':=by
 by_cases c0:pid=0
 ·subst c0
  by_cases c1:ad=0
  ·subst c1
   by_cases c2:n=0
   ·subst c2
    by_cases c3:pr=0
    ·subst c3
     by_cases c4:dn=0
     ·subst c4
      obtain rfl:B=true:=by rw [← hB];simp
      clear hB
      go_enter Tryz.func52,Tryz.ntmps52
      go_wp2
      go_ret
      exact ⟨by first | rfl | (simp;done) | (simp;omega),(Below.refl _ _).alloc (Nat.le_refl _) _⟩
     ·have k4:decide ((0:Int) < (dn:Int))=true:=by simp;omega
      obtain rfl:B=false:=by rw [← hB];simp [c4]
      clear hB
      go_enter Tryz.func52,Tryz.ntmps52
      go_wp2
      go_ret
      exact ⟨by first | rfl | (simp;done) | (simp;omega),(Below.refl _ _).alloc (Nat.le_refl _) _⟩
    ·have k3:(pr != 0)=true:=by simpa using c3
     obtain rfl:B=false:=by rw [← hB];simp [c3]
     clear hB
     go_enter Tryz.func52,Tryz.ntmps52
     go_wp2
     go_ret
     exact ⟨by first | rfl | (simp;done) | (simp;omega),(Below.refl _ _).alloc (Nat.le_refl _) _⟩
   ·have k2:(n != 0)=true:=by simpa using c2
    obtain rfl:B=false:=by rw [← hB];simp [c2]
    clear hB
    go_enter Tryz.func52,Tryz.ntmps52
    go_wp2
    go_ret
    exact ⟨by first | rfl | (simp;done) | (simp;omega),(Below.refl _ _).alloc (Nat.le_refl _) _⟩
  ·have k1:(ad != 0)=true:=by simpa using c1
   obtain rfl:B=false:=by rw [← hB];simp [c1]
   clear hB
   go_enter Tryz.func52,Tryz.ntmps52
   go_wp2
   go_ret
   exact ⟨by first | rfl | (simp;done) | (simp;omega),(Below.refl _ _).alloc (Nat.le_refl _) _⟩
 ·have k0:(pid != 0)=true:=by simpa using c0
  obtain rfl:B=false:=by rw [← hB];simp [c0]
  clear hB
  go_enter Tryz.func52,Tryz.ntmps52
  go_wp2
  go_ret
  exact ⟨by first | rfl | (simp;done) | (simp;omega),(Below.refl _ _).alloc (Nat.le_refl _) _⟩
set_option maxHeartbeats 1000000 in
theorem refright_9 (B:Bool) (hB:(decide (pid=0) && (decide (ad=0) && (decide (n=0) && (decide (pr=0) && decide (dn=0)))))=B):Calls Tryz.prog 52 #[.agg #[.int .i64 9,.int .i64 pid,.int .i64 ad,.int .i64 n,.int .i64 pr,.slice a dn dc]] w fun e w'=>e = .returned (.bool B)∧Below w.heap.size w w':=by
 by_cases c0:pid=0
 ·subst c0
  by_cases c1:ad=0
  ·subst c1
   by_cases c2:n=0
   ·subst c2
    by_cases c3:pr=0
    ·subst c3
     by_cases c4:dn=0
     ·subst c4
      obtain rfl:B=true:=by rw [← hB];simp
      clear hB
      go_enter Tryz.func52,Tryz.ntmps52
      go_wp2
      go_ret
      exact ⟨by first | rfl | (simp;done) | (simp;omega),(Below.refl _ _).alloc (Nat.le_refl _) _⟩
     ·have k4:decide ((0:Int) < (dn:Int))=true:=by simp;omega
      obtain rfl:B=false:=by rw [← hB];simp [c4]
      clear hB
      go_enter Tryz.func52,Tryz.ntmps52
      go_wp2
      go_ret
      exact ⟨by first | rfl | (simp;done) | (simp;omega),(Below.refl _ _).alloc (Nat.le_refl _) _⟩
    ·have k3:(pr != 0)=true:=by simpa using c3
     obtain rfl:B=false:=by rw [← hB];simp [c3]
     clear hB
     go_enter Tryz.func52,Tryz.ntmps52
     go_wp2
     go_ret
     exact ⟨by first | rfl | (simp;done) | (simp;omega),(Below.refl _ _).alloc (Nat.le_refl _) _⟩
   ·have k2:(n != 0)=true:=by simpa using c2
    obtain rfl:B=false:=by rw [← hB];simp [c2]
    clear hB
    go_enter Tryz.func52,Tryz.ntmps52
    go_wp2
    go_ret
    exact ⟨by first | rfl | (simp;done) | (simp;omega),(Below.refl _ _).alloc (Nat.le_refl _) _⟩
  ·have k1:(ad != 0)=true:=by simpa using c1
   obtain rfl:B=false:=by rw [← hB];simp [c1]
   clear hB
   go_enter Tryz.func52,Tryz.ntmps52
   go_wp2
   go_ret
   exact ⟨by first | rfl | (simp;done) | (simp;omega),(Below.refl _ _).alloc (Nat.le_refl _) _⟩
 ·have k0:(pid != 0)=true:=by simpa using c0
  obtain rfl:B=false:=by rw [← hB];simp [c0]
  clear hB
  go_enter Tryz.func52,Tryz.ntmps52
  go_wp2
  go_ret
  exact ⟨by first | rfl | (simp;done) | (simp;omega),(Below.refl _ _).alloc (Nat.le_refl _) _⟩
set_option maxHeartbeats 1000000 in
theorem refright_2 (B:Bool) (hB:decide (dn=0)=B):Calls Tryz.prog 52 #[.agg #[.int .i64 2,.int .i64 pid,.int .i64 ad,.int .i64 n,.int .i64 pr,.slice a dn dc]] w fun e w'=>e = .returned (.bool B)∧Below w.heap.size w w':=by
 by_cases c0:dn=0
 ·subst c0
  obtain rfl:B=true:=by rw [← hB];simp
  clear hB
  go_enter Tryz.func52,Tryz.ntmps52
  go_wp2
  go_ret
  exact ⟨by first | rfl | (simp;done) | (simp;omega),(Below.refl _ _).alloc (Nat.le_refl _) _⟩
 ·have k0:decide ((0:Int) < (dn:Int))=true:=by simp;omega
  obtain rfl:B=false:=by rw [← hB];simp [c0]
  clear hB
  go_enter Tryz.func52,Tryz.ntmps52
  go_wp2
  go_ret
  exact ⟨by first | rfl | (simp;done) | (simp;omega),(Below.refl _ _).alloc (Nat.le_refl _) _⟩
set_option maxHeartbeats 1000000 in
theorem refright_4 (B:Bool) (hB:decide (dn=0)=B):Calls Tryz.prog 52 #[.agg #[.int .i64 4,.int .i64 pid,.int .i64 ad,.int .i64 n,.int .i64 pr,.slice a dn dc]] w fun e w'=>e = .returned (.bool B)∧Below w.heap.size w w':=by
 by_cases c0:dn=0
 ·subst c0
  obtain rfl:B=true:=by rw [← hB];simp
  clear hB
  go_enter Tryz.func52,Tryz.ntmps52
  go_wp2
  go_ret
  exact ⟨by first | rfl | (simp;done) | (simp;omega),(Below.refl _ _).alloc (Nat.le_refl _) _⟩
 ·have k0:decide ((0:Int) < (dn:Int))=true:=by simp;omega
  obtain rfl:B=false:=by rw [← hB];simp [c0]
  clear hB
  go_enter Tryz.func52,Tryz.ntmps52
  go_wp2
  go_ret
  exact ⟨by first | rfl | (simp;done) | (simp;omega),(Below.refl _ _).alloc (Nat.le_refl _) _⟩
set_option maxHeartbeats 1000000 in
theorem refright_3 (B:Bool) (hB:(decide (pr=0) && decide (dn=0))=B):Calls Tryz.prog 52 #[.agg #[.int .i64 3,.int .i64 pid,.int .i64 ad,.int .i64 n,.int .i64 pr,.slice a dn dc]] w fun e w'=>e = .returned (.bool B)∧Below w.heap.size w w':=by
 by_cases c0:pr=0
 ·subst c0
  by_cases c1:dn=0
  ·subst c1
   obtain rfl:B=true:=by rw [← hB];simp
   clear hB
   go_enter Tryz.func52,Tryz.ntmps52
   go_wp2
   go_ret
   exact ⟨by first | rfl | (simp;done) | (simp;omega),(Below.refl _ _).alloc (Nat.le_refl _) _⟩
  ·have k1:decide ((0:Int) < (dn:Int))=true:=by simp;omega
   obtain rfl:B=false:=by rw [← hB];simp [c1]
   clear hB
   go_enter Tryz.func52,Tryz.ntmps52
   go_wp2
   go_ret
   exact ⟨by first | rfl | (simp;done) | (simp;omega),(Below.refl _ _).alloc (Nat.le_refl _) _⟩
 ·have k0:(pr != 0)=true:=by simpa using c0
  obtain rfl:B=false:=by rw [← hB];simp [c0]
  clear hB
  go_enter Tryz.func52,Tryz.ntmps52
  go_wp2
  go_ret
  exact ⟨by first | rfl | (simp;done) | (simp;omega),(Below.refl _ _).alloc (Nat.le_refl _) _⟩
set_option maxHeartbeats 1000000 in
theorem refright_5 (B:Bool) (hB:(decide (pr=0) && decide (dn=0))=B):Calls Tryz.prog 52 #[.agg #[.int .i64 5,.int .i64 pid,.int .i64 ad,.int .i64 n,.int .i64 pr,.slice a dn dc]] w fun e w'=>e = .returned (.bool B)∧Below w.heap.size w w':=by
 by_cases c0:pr=0
 ·subst c0
  by_cases c1:dn=0
  ·subst c1
   obtain rfl:B=true:=by rw [← hB];simp
   clear hB
   go_enter Tryz.func52,Tryz.ntmps52
   go_wp2
   go_ret
   exact ⟨by first | rfl | (simp;done) | (simp;omega),(Below.refl _ _).alloc (Nat.le_refl _) _⟩
  ·have k1:decide ((0:Int) < (dn:Int))=true:=by simp;omega
   obtain rfl:B=false:=by rw [← hB];simp [c1]
   clear hB
   go_enter Tryz.func52,Tryz.ntmps52
   go_wp2
   go_ret
   exact ⟨by first | rfl | (simp;done) | (simp;omega),(Below.refl _ _).alloc (Nat.le_refl _) _⟩
 ·have k0:(pr != 0)=true:=by simpa using c0
  obtain rfl:B=false:=by rw [← hB];simp [c0]
  clear hB
  go_enter Tryz.func52,Tryz.ntmps52
  go_wp2
  go_ret
  exact ⟨by first | rfl | (simp;done) | (simp;omega),(Below.refl _ _).alloc (Nat.le_refl _) _⟩
set_option maxHeartbeats 1000000 in
theorem refright_6 (B:Bool) (hB:(decide (n=0) && decide (pr=0))=B):Calls Tryz.prog 52 #[.agg #[.int .i64 6,.int .i64 pid,.int .i64 ad,.int .i64 n,.int .i64 pr,.slice a dn dc]] w fun e w'=>e = .returned (.bool B)∧Below w.heap.size w w':=by
 by_cases c0:n=0
 ·subst c0
  by_cases c1:pr=0
  ·subst c1
   obtain rfl:B=true:=by rw [← hB];simp
   clear hB
   go_enter Tryz.func52,Tryz.ntmps52
   go_wp2
   go_ret
   exact ⟨by first | rfl | (simp;done) | (simp;omega),(Below.refl _ _).alloc (Nat.le_refl _) _⟩
  ·have k1:(pr != 0)=true:=by simpa using c1
   obtain rfl:B=false:=by rw [← hB];simp [c1]
   clear hB
   go_enter Tryz.func52,Tryz.ntmps52
   go_wp2
   go_ret
   exact ⟨by first | rfl | (simp;done) | (simp;omega),(Below.refl _ _).alloc (Nat.le_refl _) _⟩
 ·have k0:(n != 0)=true:=by simpa using c0
  obtain rfl:B=false:=by rw [← hB];simp [c0]
  clear hB
  go_enter Tryz.func52,Tryz.ntmps52
  go_wp2
  go_ret
  exact ⟨by first | rfl | (simp;done) | (simp;omega),(Below.refl _ _).alloc (Nat.le_refl _) _⟩
set_option maxHeartbeats 1000000 in
theorem refright_7 (B:Bool) (hB:(decide (ad=0) && (decide (n=0) && (decide (pr=0) && decide (dn=0))))=B):Calls Tryz.prog 52 #[.agg #[.int .i64 7,.int .i64 pid,.int .i64 ad,.int .i64 n,.int .i64 pr,.slice a dn dc]] w fun e w'=>e = .returned (.bool B)∧Below w.heap.size w w':=by
 by_cases c0:ad=0
 ·subst c0
  by_cases c1:n=0
  ·subst c1
   by_cases c2:pr=0
   ·subst c2
    by_cases c3:dn=0
    ·subst c3
     obtain rfl:B=true:=by rw [← hB];simp
     clear hB
     go_enter Tryz.func52,Tryz.ntmps52
     go_wp2
     go_ret
     exact ⟨by first | rfl | (simp;done) | (simp;omega),(Below.refl _ _).alloc (Nat.le_refl _) _⟩
    ·have k3:decide ((0:Int) < (dn:Int))=true:=by simp;omega
     obtain rfl:B=false:=by rw [← hB];simp [c3]
     clear hB
     go_enter Tryz.func52,Tryz.ntmps52
     go_wp2
     go_ret
     exact ⟨by first | rfl | (simp;done) | (simp;omega),(Below.refl _ _).alloc (Nat.le_refl _) _⟩
   ·have k2:(pr != 0)=true:=by simpa using c2
    obtain rfl:B=false:=by rw [← hB];simp [c2]
    clear hB
    go_enter Tryz.func52,Tryz.ntmps52
    go_wp2
    go_ret
    exact ⟨by first | rfl | (simp;done) | (simp;omega),(Below.refl _ _).alloc (Nat.le_refl _) _⟩
  ·have k1:(n != 0)=true:=by simpa using c1
   obtain rfl:B=false:=by rw [← hB];simp [c1]
   clear hB
   go_enter Tryz.func52,Tryz.ntmps52
   go_wp2
   go_ret
   exact ⟨by first | rfl | (simp;done) | (simp;omega),(Below.refl _ _).alloc (Nat.le_refl _) _⟩
 ·have k0:(ad != 0)=true:=by simpa using c0
  obtain rfl:B=false:=by rw [← hB];simp [c0]
  clear hB
  go_enter Tryz.func52,Tryz.ntmps52
  go_wp2
  go_ret
  exact ⟨by first | rfl | (simp;done) | (simp;omega),(Below.refl _ _).alloc (Nat.le_refl _) _⟩
set_option maxHeartbeats 1000000 in
theorem refright_8 (B:Bool) (hB:(decide (ad=0) && (decide (n=0) && (decide (pr=0) && decide (dn=0))))=B):Calls Tryz.prog 52 #[.agg #[.int .i64 8,.int .i64 pid,.int .i64 ad,.int .i64 n,.int .i64 pr,.slice a dn dc]] w fun e w'=>e = .returned (.bool B)∧Below w.heap.size w w':=by
 by_cases c0:ad=0
 ·subst c0
  by_cases c1:n=0
  ·subst c1
   by_cases c2:pr=0
   ·subst c2
    by_cases c3:dn=0
    ·subst c3
     obtain rfl:B=true:=by rw [← hB];simp
     clear hB
     go_enter Tryz.func52,Tryz.ntmps52
     go_wp2
     go_ret
     exact ⟨by first | rfl | (simp;done) | (simp;omega),(Below.refl _ _).alloc (Nat.le_refl _) _⟩
    ·have k3:decide ((0:Int) < (dn:Int))=true:=by simp;omega
     obtain rfl:B=false:=by rw [← hB];simp [c3]
     clear hB
     go_enter Tryz.func52,Tryz.ntmps52
     go_wp2
     go_ret
     exact ⟨by first | rfl | (simp;done) | (simp;omega),(Below.refl _ _).alloc (Nat.le_refl _) _⟩
   ·have k2:(pr != 0)=true:=by simpa using c2
    obtain rfl:B=false:=by rw [← hB];simp [c2]
    clear hB
    go_enter Tryz.func52,Tryz.ntmps52
    go_wp2
    go_ret
    exact ⟨by first | rfl | (simp;done) | (simp;omega),(Below.refl _ _).alloc (Nat.le_refl _) _⟩
  ·have k1:(n != 0)=true:=by simpa using c1
   obtain rfl:B=false:=by rw [← hB];simp [c1]
   clear hB
   go_enter Tryz.func52,Tryz.ntmps52
   go_wp2
   go_ret
   exact ⟨by first | rfl | (simp;done) | (simp;omega),(Below.refl _ _).alloc (Nat.le_refl _) _⟩
 ·have k0:(ad != 0)=true:=by simpa using c0
  obtain rfl:B=false:=by rw [← hB];simp [c0]
  clear hB
  go_enter Tryz.func52,Tryz.ntmps52
  go_wp2
  go_ret
  exact ⟨by first | rfl | (simp;done) | (simp;omega),(Below.refl _ _).alloc (Nat.le_refl _) _⟩
theorem refright_no (kd:Int) (h:∀ k:Int,1≤k→k≤9→kd ≠ k):Calls Tryz.prog 52 #[.agg #[.int .i64 kd,.int .i64 pid,.int .i64 ad,.int .i64 n,.int .i64 pr,.slice a dn dc]] w fun e w'=>e = .returned (.bool false)∧Below w.heap.size w w':=by
 have z1:decide (kd=1)=false:=decide_eq_false (h 1 (by omega) (by omega))
 have y1:(kd == 1)=false:=by simpa using h 1 (by omega) (by omega)
 have z2:decide (kd=2)=false:=decide_eq_false (h 2 (by omega) (by omega))
 have y2:(kd == 2)=false:=by simpa using h 2 (by omega) (by omega)
 have z3:decide (kd=3)=false:=decide_eq_false (h 3 (by omega) (by omega))
 have y3:(kd == 3)=false:=by simpa using h 3 (by omega) (by omega)
 have z4:decide (kd=4)=false:=decide_eq_false (h 4 (by omega) (by omega))
 have y4:(kd == 4)=false:=by simpa using h 4 (by omega) (by omega)
 have z5:decide (kd=5)=false:=decide_eq_false (h 5 (by omega) (by omega))
 have y5:(kd == 5)=false:=by simpa using h 5 (by omega) (by omega)
 have z6:decide (kd=6)=false:=decide_eq_false (h 6 (by omega) (by omega))
 have y6:(kd == 6)=false:=by simpa using h 6 (by omega) (by omega)
 have z7:decide (kd=7)=false:=decide_eq_false (h 7 (by omega) (by omega))
 have y7:(kd == 7)=false:=by simpa using h 7 (by omega) (by omega)
 have z8:decide (kd=8)=false:=decide_eq_false (h 8 (by omega) (by omega))
 have y8:(kd == 8)=false:=by simpa using h 8 (by omega) (by omega)
 have z9:decide (kd=9)=false:=decide_eq_false (h 9 (by omega) (by omega))
 have y9:(kd == 9)=false:=by simpa using h 9 (by omega) (by omega)
 clear h
 go_enter Tryz.func52,Tryz.ntmps52
 go_wp2
 go_ret
 exact ⟨rfl,(Below.refl _ _).alloc (Nat.le_refl _) _⟩
theorem oprefright_any (o:Opn) (hd:o.data.length=dn):Calls Tryz.prog 52 #[.agg #[.int .i64 o.kind,.int .i64 o.pid,.int .i64 o.at_,.int .i64 o.n,.int .i64 o.prot,.slice a dn dc]] w fun e w'=>e = .returned (.bool (rightOp o))∧Below w.heap.size w w':=by
 subst hd
 obtain ⟨kd,pid,ad,n,pr,d⟩:=o
 unfold rightOp
 dsimp only
 by_cases h:∃ k:Int,(1≤k∧k≤9)∧kd=k
 ·obtain ⟨k,hk,rfl⟩:=h
  have:kd=1∨kd=2∨kd=3∨kd=4∨kd=5∨kd=6∨kd=7∨kd=8∨kd=9:=by omega
  rcases this with rfl | rfl | rfl | rfl | rfl | rfl | rfl | rfl | rfl
  ·exact refright_1 pid ad n pr a _ dc w _ (by simp [Bool.decide_and])
  ·exact refright_2 pid ad n pr a _ dc w _ (by simp)
  ·exact refright_3 pid ad n pr a _ dc w _ (by simp [Bool.decide_and])
  ·exact refright_4 pid ad n pr a _ dc w _ (by simp)
  ·exact refright_5 pid ad n pr a _ dc w _ (by simp [Bool.decide_and])
  ·exact refright_6 pid ad n pr a _ dc w _ (by simp [Bool.decide_and])
  ·exact refright_7 pid ad n pr a _ dc w _ (by simp [Bool.decide_and])
  ·exact refright_8 pid ad n pr a _ dc w _ (by simp [Bool.decide_and])
  ·exact refright_9 pid ad n pr a _ dc w _ (by simp [Bool.decide_and])
 ·have hne:∀ k:Int,1≤k→k≤9→kd ≠ k:=fun k h1 h2 e=>h ⟨k,⟨h1,h2⟩,e⟩
  have z:(if kd=1∨kd=9 then decide (pid=0∧ad=0∧n=0∧pr=0∧d.length=0) else if kd=2∨kd=4 then decide (d.length=0) else if kd=3∨kd=5 then decide (pr=0∧d.length=0) else if kd=6 then decide (n=0∧pr=0) else if kd=7∨kd=8 then decide (ad=0∧n=0∧pr=0∧d.length=0) else false)=false:=by
   have h1:=hne 1;have h2:=hne 2;have h3:=hne 3;have h4:=hne 4;have h5:=hne 5;have h6:=hne 6;have h7:=hne 7;have h8:=hne 8;have h9:=hne 9
   rw [if_neg (by omega),if_neg (by omega),if_neg (by omega),if_neg (by omega),if_neg (by omega)]
  rw [z]
  exact refright_no pid ad n pr a _ dc w kd hne
end
end Go.Proofs.YtoepnbfifjgpfaaGreat
