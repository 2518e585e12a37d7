/- The machine: what an operation makes of a process's regions. -/
import Derived.Test.YtoepnbfifjgpfaaGreatMu0
import Derived.Test.YtoepnbfifjgpfaaGreatMu16
import Derived.Test.YtoepnbfifjgpfaaGreatMu17
import Derived.WalkKit
import Derived.ProofKit
import Derived.BigQuiet
import Derived.Deep.QuietTactic
import Derived.Lib.Hide
import Derived.RegionTactic
namespace Go.Proofs.YtoepnbfifjgpfaaGreat
open Go.RowKit
set_option linter.unusedSimpArgs false
section
variable {No:Nat→Prop} {h:McH} {st:Mc} {w:World}
/-- Ends with regions of its own and an error. -/
def GivesTurn (L:List Rg) (err:Int) (w:World) (e:Ending) (w':World):Prop:=∃ a n c,e = .returned (.tuple #[.slice a n c,.int .i64 err])∧(err=0→OwnsS Rg.cells 3 110 w' w.heap.size (.slice a n c) L)∧Below w.heap.size w w'
set_option maxHeartbeats 2000000 in
set_option maxRecDepth 100000 in
theorem turned_any (i:McIn w No h st) (o:Opn) (a:Option Addr) (dn dc:Nat) (hp:(Lit.int .i64 o.pid).wf=true) (hk:(Lit.int .i64 o.at_).wf=true) (hn:(Lit.int .i64 o.n).wf=true) :
  Calls Tryz.prog 65 #[.pointer (some ⟨h.m,0,none⟩),.agg #[.int .i64 o.kind,.int .i64 o.pid,.int .i64 o.at_,.int .i64 o.n,.int .i64 o.prot,.slice a dn dc]] w (GivesTurn (turnL (st.rs o.pid) o) (turnE st.c (st.rs o.pid) o) w):=by
 obtain ⟨kd,pid,ad,n,pr,d⟩:=o
 dsimp only at hp hk hn ⊢
 have hk1:=wf_i64_bd hk
 have hn1:=wf_i64_bd hn
 have hb0:=below_a w (.cells #[.int .i64 kd,.int .i64 pid,.int .i64 ad,.int .i64 n,.int .i64 pr,.slice a dn dc] 39)
 have i1:=i.below hb0
 have hcn:=i.ok.cn pid
 have hcf:=i.ok.cf
 have hrg:=hcf.regions
 have hps:=hcf.pages
 obtain ⟨c4,c6,c7,c8,c9,c10,c11⟩:=i1.cells
 obtain ⟨ra,rn,rc,hl,hr,_⟩:=i1.lookRB pid hp
 have hrn:rn≤32:=by have:=hr.len;have:=i.few pid;omega
 have hrow:=heap_alloc_new w (.cells #[.int .i64 kd,.int .i64 pid,.int .i64 ad,.int .i64 n,.int .i64 pr,.slice a dn dc] 39)
 obtain ⟨o0,o1,o2,o3,o4,o5⟩:=cells6 hrow
 obtain ⟨PS,hPS⟩:∃ x,st.c.pages=x:=⟨_,rfl⟩
 obtain ⟨L,hL⟩:∃ x,st.rs pid=x:=⟨_,rfl⟩
 obtain ⟨RG,hRG⟩:∃ x,st.c.regions=x:=⟨_,rfl⟩
 have hT:turnE st.c (st.rs pid) ⟨kd,pid,ad,n,pr,d⟩=if strB st.c ad n=false then 1 else if turnE0 L ⟨kd,pid,ad,n,pr,d⟩=0∧RG < (turnL L ⟨kd,pid,ad,n,pr,d⟩).length then 6 else turnE0 L ⟨kd,pid,ad,n,pr,d⟩:=by rw [← hRG,← hL];rfl
 rw [hL] at hr hcn hT ⊢;rw [hPS] at c8 hps;rw [hRG] at c7 hrg hcn
 have hS:strB st.c ad n=decide (1≤n∧0≤ad∧n≤PS∧ad≤PS - n):=by rw [← hPS];rfl
 rw [hT,hS];have HL:=Lib.hid hl;have HR:=Lib.hid hr;have HB0:=Lib.hid hb0;have HCN:=Lib.hid hcn;have HROW:=Lib.hid hrow;clear hl hr i i1 hT hS hcf hcn hp hk hn hPS hL hRG hb0 hrow
 by_cases e0:n < 1
 ·have d0:decide (n < 1)=true:=decide_eq_true e0
  rw [if_pos (by simp;omega)]
  go_enter Tryz.func65,Tryz.ntmps65
  go_wp2_with fail
  refine' reg_free (G:=Kept) (pickF [eqV _,eqV _,eqV _,eqV _,eqV _,eqV _,eqV _,eqV _]) [8,9,10,11,12,13,14,6] [[],[0],[1],[2],[],[4],[3,5],[6]] [0,1,2,3,4,5,6,7] (by kernel_rfl) Kept.refl Kept.trans (pick_stays ⟨eS _,eS _,eS _,eS _,eS _,eS _,eS _,eS _,trivial⟩) 103 rfl (by kernel_rfl) (by kernel_rfl) rfl rfl ?r1obl ?r1fin
  case r1obl=>
   refine ⟨?r1o0,?r1o1,?r1o2,?r1o3,?r1o4,?r1o5,?r1o6,?r1o7,trivial⟩
   case r1o0 | r1o4=>
    intro w1 hG;refine t1o (by rfl) ?_;intro K hK;go_simp;refine hK _ _ ⟨rfl,Kept.refl _,?_⟩;show _=_;simp only [gv1];rfl
   case r1o1 | r1o2=>
    intro w1 hG;intro va ha;change _=_ at ha;subst ha;refine t1o (by rfl) ?_;intro K hK;simp only [gv2];go_simp;refine hK _ _ ⟨rfl,Kept.refl _,?_⟩;show _=_;simp only [gv1];rfl
   case r1o3=>
    intro w1 hG;intro v2 h2;change _=_ at h2;subst h2;refine t1o (by rfl) ?_;intro K hK;simp only [gv2]
    have hGB:=kept_0 hG
    have hc:=cel hGB c10
    go_simp;refine hK _ _ ⟨rfl,Kept.refl _,?_⟩;show _=_;simp only [gv1];rfl
   case r1o5=>
    intro w1 hG;intro v4 h4;change _=_ at h4;subst h4;refine t1o (by rfl) ?_;intro K hK;simp only [gv2]
    have hGB:=kept_0 hG
    have hc:=cel hGB o1
    go_simp;refine hK _ _ ⟨rfl,Kept.refl _,?_⟩;show _=_;simp only [gv1];rfl
   case r1o6=>
    intro w1 hG;intro v3 h3;change _=_ at h3;subst h3;intro v5 h5;change _=_ at h5;subst h5;refine t1o (by rfl) ?_;intro K hK;simp only [gv2]
    have hGB:=kept_0 hG
    have hlk:=HL.out w1 hGB
    go_simp;refine hK _ _ ⟨rfl,Kept.refl _,?_⟩;show _=_;simp only [gv1];rfl
   case r1o7=>
    intro w1 hG;intro va ha;change _=_ at ha;subst ha;refine t1o (by rfl) ?_;intro K hK;simp only [gv2];go_simp;refine hK _ _ ⟨rfl,Kept.refl _,?_⟩;show _=_;simp only [gv1];rfl
  intro w1 hG;intro v0 h0;change _=_ at h0;subst h0;intro v1 h1;change _=_ at h1;subst h1;intro v2 h2;change _=_ at h2;subst h2;intro v3 h3;change _=_ at h3;subst h3;intro v4 h4;change _=_ at h4;subst h4;intro v5 h5;change _=_ at h5;subst h5;intro v6 h6;change _=_ at h6;subst h6;intro v7 h7;change _=_ at h7;subst h7
  simp only [Given,gv2]
  have hGB:=kept_0 hG
  clear hG;replace c7:=cel hGB c7;replace c8:=cel hGB c8;replace o0:=cel hGB o0;replace o1:=cel hGB o1;replace o2:=cel hGB o2;replace o3:=cel hGB o3;replace o4:=cel hGB o4
  have HB1:=Lib.hid (Below.call HB0.out hGB)
  replace HR:=Lib.hid (HR.out.below hGB);clear hGB c4 c6 c9 c10 c11 HL HROW
  go_wp2
  go_quiet (fail)
  go_wp2
  go_ret2
  exact ⟨_,_,_,rfl,(fun h=>absurd h (by decide)),belowNp HB1.out _⟩
 have d0:decide (n < 1)=false:=decide_eq_false e0
 by_cases e1:ad < 0
 ·have d1:decide (ad < 0)=true:=decide_eq_true e1
  rw [if_pos (by simp;omega)]
  go_enter Tryz.func65,Tryz.ntmps65
  go_wp2_with fail
  refine' reg_free (G:=Kept) (pickF [eqV _,eqV _,eqV _,eqV _,eqV _,eqV _,eqV _,eqV _]) [8,9,10,11,12,13,14,6] [[],[0],[1],[2],[],[4],[3,5],[6]] [0,1,2,3,4,5,6,7] (by kernel_rfl) Kept.refl Kept.trans (pick_stays ⟨eS _,eS _,eS _,eS _,eS _,eS _,eS _,eS _,trivial⟩) 103 rfl (by kernel_rfl) (by kernel_rfl) rfl rfl ?r2obl ?r2fin
  case r2obl=>
   refine ⟨?r2o0,?r2o1,?r2o2,?r2o3,?r2o4,?r2o5,?r2o6,?r2o7,trivial⟩
   case r2o0 | r2o4=>
    intro w1 hG;refine t1o (by rfl) ?_;intro K hK;go_simp;refine hK _ _ ⟨rfl,Kept.refl _,?_⟩;show _=_;simp only [gv1];rfl
   case r2o1 | r2o2=>
    intro w1 hG;intro va ha;change _=_ at ha;subst ha;refine t1o (by rfl) ?_;intro K hK;simp only [gv2];go_simp;refine hK _ _ ⟨rfl,Kept.refl _,?_⟩;show _=_;simp only [gv1];rfl
   case r2o3=>
    intro w1 hG;intro v2 h2;change _=_ at h2;subst h2;refine t1o (by rfl) ?_;intro K hK;simp only [gv2]
    have hGB:=kept_0 hG
    have hc:=cel hGB c10
    go_simp;refine hK _ _ ⟨rfl,Kept.refl _,?_⟩;show _=_;simp only [gv1];rfl
   case r2o5=>
    intro w1 hG;intro v4 h4;change _=_ at h4;subst h4;refine t1o (by rfl) ?_;intro K hK;simp only [gv2]
    have hGB:=kept_0 hG
    have hc:=cel hGB o1
    go_simp;refine hK _ _ ⟨rfl,Kept.refl _,?_⟩;show _=_;simp only [gv1];rfl
   case r2o6=>
    intro w1 hG;intro v3 h3;change _=_ at h3;subst h3;intro v5 h5;change _=_ at h5;subst h5;refine t1o (by rfl) ?_;intro K hK;simp only [gv2]
    have hGB:=kept_0 hG
    have hlk:=HL.out w1 hGB
    go_simp;refine hK _ _ ⟨rfl,Kept.refl _,?_⟩;show _=_;simp only [gv1];rfl
   case r2o7=>
    intro w1 hG;intro va ha;change _=_ at ha;subst ha;refine t1o (by rfl) ?_;intro K hK;simp only [gv2];go_simp;refine hK _ _ ⟨rfl,Kept.refl _,?_⟩;show _=_;simp only [gv1];rfl
  intro w1 hG;intro v0 h0;change _=_ at h0;subst h0;intro v1 h1;change _=_ at h1;subst h1;intro v2 h2;change _=_ at h2;subst h2;intro v3 h3;change _=_ at h3;subst h3;intro v4 h4;change _=_ at h4;subst h4;intro v5 h5;change _=_ at h5;subst h5;intro v6 h6;change _=_ at h6;subst h6;intro v7 h7;change _=_ at h7;subst h7
  simp only [Given,gv2]
  have hGB:=kept_0 hG
  clear hG;replace c7:=cel hGB c7;replace c8:=cel hGB c8;replace o0:=cel hGB o0;replace o1:=cel hGB o1;replace o2:=cel hGB o2;replace o3:=cel hGB o3;replace o4:=cel hGB o4
  have HB1:=Lib.hid (Below.call HB0.out hGB)
  replace HR:=Lib.hid (HR.out.below hGB);clear hGB c4 c6 c9 c10 c11 HL HROW
  go_wp2
  go_quiet (fail)
  go_wp2
  go_ret2
  exact ⟨_,_,_,rfl,(fun h=>absurd h (by decide)),belowNp HB1.out _⟩
 have d1:decide (ad < 0)=false:=decide_eq_false e1
 by_cases e2:PS < n
 ·have d2:decide (PS < n)=true:=decide_eq_true e2
  rw [if_pos (by simp;omega)]
  go_enter Tryz.func65,Tryz.ntmps65
  go_wp2_with fail
  refine' reg_free (G:=Kept) (pickF [eqV _,eqV _,eqV _,eqV _,eqV _,eqV _,eqV _,eqV _]) [8,9,10,11,12,13,14,6] [[],[0],[1],[2],[],[4],[3,5],[6]] [0,1,2,3,4,5,6,7] (by kernel_rfl) Kept.refl Kept.trans (pick_stays ⟨eS _,eS _,eS _,eS _,eS _,eS _,eS _,eS _,trivial⟩) 103 rfl (by kernel_rfl) (by kernel_rfl) rfl rfl ?r3obl ?r3fin
  case r3obl=>
   refine ⟨?r3o0,?r3o1,?r3o2,?r3o3,?r3o4,?r3o5,?r3o6,?r3o7,trivial⟩
   case r3o0 | r3o4=>
    intro w1 hG;refine t1o (by rfl) ?_;intro K hK;go_simp;refine hK _ _ ⟨rfl,Kept.refl _,?_⟩;show _=_;simp only [gv1];rfl
   case r3o1 | r3o2=>
    intro w1 hG;intro va ha;change _=_ at ha;subst ha;refine t1o (by rfl) ?_;intro K hK;simp only [gv2];go_simp;refine hK _ _ ⟨rfl,Kept.refl _,?_⟩;show _=_;simp only [gv1];rfl
   case r3o3=>
    intro w1 hG;intro v2 h2;change _=_ at h2;subst h2;refine t1o (by rfl) ?_;intro K hK;simp only [gv2]
    have hGB:=kept_0 hG
    have hc:=cel hGB c10
    go_simp;refine hK _ _ ⟨rfl,Kept.refl _,?_⟩;show _=_;simp only [gv1];rfl
   case r3o5=>
    intro w1 hG;intro v4 h4;change _=_ at h4;subst h4;refine t1o (by rfl) ?_;intro K hK;simp only [gv2]
    have hGB:=kept_0 hG
    have hc:=cel hGB o1
    go_simp;refine hK _ _ ⟨rfl,Kept.refl _,?_⟩;show _=_;simp only [gv1];rfl
   case r3o6=>
    intro w1 hG;intro v3 h3;change _=_ at h3;subst h3;intro v5 h5;change _=_ at h5;subst h5;refine t1o (by rfl) ?_;intro K hK;simp only [gv2]
    have hGB:=kept_0 hG
    have hlk:=HL.out w1 hGB
    go_simp;refine hK _ _ ⟨rfl,Kept.refl _,?_⟩;show _=_;simp only [gv1];rfl
   case r3o7=>
    intro w1 hG;intro va ha;change _=_ at ha;subst ha;refine t1o (by rfl) ?_;intro K hK;simp only [gv2];go_simp;refine hK _ _ ⟨rfl,Kept.refl _,?_⟩;show _=_;simp only [gv1];rfl
  intro w1 hG;intro v0 h0;change _=_ at h0;subst h0;intro v1 h1;change _=_ at h1;subst h1;intro v2 h2;change _=_ at h2;subst h2;intro v3 h3;change _=_ at h3;subst h3;intro v4 h4;change _=_ at h4;subst h4;intro v5 h5;change _=_ at h5;subst h5;intro v6 h6;change _=_ at h6;subst h6;intro v7 h7;change _=_ at h7;subst h7
  simp only [Given,gv2]
  have hGB:=kept_0 hG
  clear hG;replace c7:=cel hGB c7;replace c8:=cel hGB c8;replace o0:=cel hGB o0;replace o1:=cel hGB o1;replace o2:=cel hGB o2;replace o3:=cel hGB o3;replace o4:=cel hGB o4
  have HB1:=Lib.hid (Below.call HB0.out hGB)
  replace HR:=Lib.hid (HR.out.below hGB);clear hGB c4 c6 c9 c10 c11 HL HROW
  go_wp2
  go_quiet (fail)
  go_wp2
  go_ret2
  exact ⟨_,_,_,rfl,(fun h=>absurd h (by decide)),belowNp HB1.out _⟩
 have d2:decide (PS < n)=false:=decide_eq_false e2
 by_cases e3:PS - n < ad
 ·have d3:decide (PS - n < ad)=true:=decide_eq_true e3
  rw [if_pos (by simp;omega)]
  go_enter Tryz.func65,Tryz.ntmps65
  go_wp2_with fail
  refine' reg_free (G:=Kept) (pickF [eqV _,eqV _,eqV _,eqV _,eqV _,eqV _,eqV _,eqV _]) [8,9,10,11,12,13,14,6] [[],[0],[1],[2],[],[4],[3,5],[6]] [0,1,2,3,4,5,6,7] (by kernel_rfl) Kept.refl Kept.trans (pick_stays ⟨eS _,eS _,eS _,eS _,eS _,eS _,eS _,eS _,trivial⟩) 103 rfl (by kernel_rfl) (by kernel_rfl) rfl rfl ?r4obl ?r4fin
  case r4obl=>
   refine ⟨?r4o0,?r4o1,?r4o2,?r4o3,?r4o4,?r4o5,?r4o6,?r4o7,trivial⟩
   case r4o0 | r4o4=>
    intro w1 hG;refine t1o (by rfl) ?_;intro K hK;go_simp;refine hK _ _ ⟨rfl,Kept.refl _,?_⟩;show _=_;simp only [gv1];rfl
   case r4o1 | r4o2=>
    intro w1 hG;intro va ha;change _=_ at ha;subst ha;refine t1o (by rfl) ?_;intro K hK;simp only [gv2];go_simp;refine hK _ _ ⟨rfl,Kept.refl _,?_⟩;show _=_;simp only [gv1];rfl
   case r4o3=>
    intro w1 hG;intro v2 h2;change _=_ at h2;subst h2;refine t1o (by rfl) ?_;intro K hK;simp only [gv2]
    have hGB:=kept_0 hG
    have hc:=cel hGB c10
    go_simp;refine hK _ _ ⟨rfl,Kept.refl _,?_⟩;show _=_;simp only [gv1];rfl
   case r4o5=>
    intro w1 hG;intro v4 h4;change _=_ at h4;subst h4;refine t1o (by rfl) ?_;intro K hK;simp only [gv2]
    have hGB:=kept_0 hG
    have hc:=cel hGB o1
    go_simp;refine hK _ _ ⟨rfl,Kept.refl _,?_⟩;show _=_;simp only [gv1];rfl
   case r4o6=>
    intro w1 hG;intro v3 h3;change _=_ at h3;subst h3;intro v5 h5;change _=_ at h5;subst h5;refine t1o (by rfl) ?_;intro K hK;simp only [gv2]
    have hGB:=kept_0 hG
    have hlk:=HL.out w1 hGB
    go_simp;refine hK _ _ ⟨rfl,Kept.refl _,?_⟩;show _=_;simp only [gv1];rfl
   case r4o7=>
    intro w1 hG;intro va ha;change _=_ at ha;subst ha;refine t1o (by rfl) ?_;intro K hK;simp only [gv2];go_simp;refine hK _ _ ⟨rfl,Kept.refl _,?_⟩;show _=_;simp only [gv1];rfl
  intro w1 hG;intro v0 h0;change _=_ at h0;subst h0;intro v1 h1;change _=_ at h1;subst h1;intro v2 h2;change _=_ at h2;subst h2;intro v3 h3;change _=_ at h3;subst h3;intro v4 h4;change _=_ at h4;subst h4;intro v5 h5;change _=_ at h5;subst h5;intro v6 h6;change _=_ at h6;subst h6;intro v7 h7;change _=_ at h7;subst h7
  simp only [Given,gv2]
  have hGB:=kept_0 hG
  clear hG;replace c7:=cel hGB c7;replace c8:=cel hGB c8;replace o0:=cel hGB o0;replace o1:=cel hGB o1;replace o2:=cel hGB o2;replace o3:=cel hGB o3;replace o4:=cel hGB o4
  have HB1:=Lib.hid (Below.call HB0.out hGB)
  replace HR:=Lib.hid (HR.out.below hGB);clear hGB c4 c6 c9 c10 c11 HL HROW
  go_wp2
  go_quiet (fail)
  go_wp2
  go_ret2
  exact ⟨_,_,_,rfl,(fun h=>absurd h (by decide)),belowNp HB1.out _⟩
 have d3:decide (PS - n < ad)=false:=decide_eq_false e3
 rw [if_neg (by simp;omega)]
 have hs:IntKind.i64.wrap (ad+n)=ad+n:=by rw [IntKind.wrap_i64];omega
 have HHI:=Lib.hid (show ad+n≤1099511627776 by omega)
 have hRG9:RG.toNat≤900:=by omega
 have hLn:=HR.out.len
 by_cases hk2:kd=2
 ·subst hk2
  have hE0:turnE0 L ⟨2,pid,ad,n,pr,d⟩=mapE L ad (ad+n) pr:=by rfl
  have hL0:turnL L ⟨2,pid,ad,n,pr,d⟩=mapL L ad (ad+n) pr:=by rfl
  rw [hE0,hL0];clear hE0 hL0
  by_cases hE:mapE L ad (ad+n) pr=0
  ·rw [hE]
   by_cases hln:RG < ((mapL L ad (ad+n) pr).length:Int)
   ·rw [if_pos ⟨rfl,hln⟩]
    have dl:=decide_eq_true hln
    go_enter Tryz.func65,Tryz.ntmps65
    go_wp2_with fail
    refine' reg_free (G:=Kept) (pickF [eqV _,eqV _,eqV _,eqV _,eqV _,eqV _,eqV _,eqV _]) [8,9,10,11,12,13,14,6] [[],[0],[1],[2],[],[4],[3,5],[6]] [0,1,2,3,4,5,6,7] (by kernel_rfl) Kept.refl Kept.trans (pick_stays ⟨eS _,eS _,eS _,eS _,eS _,eS _,eS _,eS _,trivial⟩) 103 rfl (by kernel_rfl) (by kernel_rfl) rfl rfl ?r5obl ?r5fin
    case r5obl=>
     refine ⟨?r5o0,?r5o1,?r5o2,?r5o3,?r5o4,?r5o5,?r5o6,?r5o7,trivial⟩
     case r5o0 | r5o4=>
      intro w1 hG;refine t1o (by rfl) ?_;intro K hK;go_simp;refine hK _ _ ⟨rfl,Kept.refl _,?_⟩;show _=_;simp only [gv1];rfl
     case r5o1 | r5o2=>
      intro w1 hG;intro va ha;change _=_ at ha;subst ha;refine t1o (by rfl) ?_;intro K hK;simp only [gv2];go_simp;refine hK _ _ ⟨rfl,Kept.refl _,?_⟩;show _=_;simp only [gv1];rfl
     case r5o3=>
      intro w1 hG;intro v2 h2;change _=_ at h2;subst h2;refine t1o (by rfl) ?_;intro K hK;simp only [gv2]
      have hGB:=kept_0 hG
      have hc:=cel hGB c10
      go_simp;refine hK _ _ ⟨rfl,Kept.refl _,?_⟩;show _=_;simp only [gv1];rfl
     case r5o5=>
      intro w1 hG;intro v4 h4;change _=_ at h4;subst h4;refine t1o (by rfl) ?_;intro K hK;simp only [gv2]
      have hGB:=kept_0 hG
      have hc:=cel hGB o1
      go_simp;refine hK _ _ ⟨rfl,Kept.refl _,?_⟩;show _=_;simp only [gv1];rfl
     case r5o6=>
      intro w1 hG;intro v3 h3;change _=_ at h3;subst h3;intro v5 h5;change _=_ at h5;subst h5;refine t1o (by rfl) ?_;intro K hK;simp only [gv2]
      have hGB:=kept_0 hG
      have hlk:=HL.out w1 hGB
      go_simp;refine hK _ _ ⟨rfl,Kept.refl _,?_⟩;show _=_;simp only [gv1];rfl
     case r5o7=>
      intro w1 hG;intro va ha;change _=_ at ha;subst ha;refine t1o (by rfl) ?_;intro K hK;simp only [gv2];go_simp;refine hK _ _ ⟨rfl,Kept.refl _,?_⟩;show _=_;simp only [gv1];rfl
    intro w1 hG;intro v0 h0;change _=_ at h0;subst h0;intro v1 h1;change _=_ at h1;subst h1;intro v2 h2;change _=_ at h2;subst h2;intro v3 h3;change _=_ at h3;subst h3;intro v4 h4;change _=_ at h4;subst h4;intro v5 h5;change _=_ at h5;subst h5;intro v6 h6;change _=_ at h6;subst h6;intro v7 h7;change _=_ at h7;subst h7
    simp only [Given,gv2]
    have hGB:=kept_0 hG
    clear hG;replace c7:=cel hGB c7;replace c8:=cel hGB c8;replace o0:=cel hGB o0;replace o1:=cel hGB o1;replace o2:=cel hGB o2;replace o3:=cel hGB o3;replace o4:=cel hGB o4
    have HB1:=Lib.hid (Below.call HB0.out hGB)
    replace HR:=Lib.hid (HR.out.below hGB);clear hGB c4 c6 c9 c10 c11 HL HROW
    go_wp2
    go_quiet (fail);go_wp2_with fail
    have hcall:=fun (q:Nat)=>map_out ra rn rc L ad (ad+n) pr (w1.drewN q) (RdS.below (m:=Rg.cells) (k:=3) HR.out (belowNp (Below.refl _ _) q)) HCN.out hRG9 HHI.out
    simp only [hE] at hcall
    refine (hcall _).mono ?_
    clear hcall
    rintro e w2 ⟨v,rfl,ho,hb⟩
    obtain ⟨a2,c2,rfl⟩:=ho.shape
    have c7b:w2.cell? ⟨h.m,7,none⟩=some (.int .i64 RG):=cel hb c7
    clear c7 c8 o0 o1 o2 o3 o4
    have HB2:=Lib.hid (Below.call (belowNp HB1.out _) hb)
    have HO:=Lib.hid (ho.mono (belowNp HB1.out _).size)
    clear ho hb
    go_wp2
    go_ret2
    exact ⟨_,_,_,rfl,(fun h=>absurd h (by decide)),HB2.out⟩
   ·rw [if_neg (fun q=>hln q.2)]
    have dl:=decide_eq_false hln
    go_enter Tryz.func65,Tryz.ntmps65
    go_wp2_with fail
    refine' reg_free (G:=Kept) (pickF [eqV _,eqV _,eqV _,eqV _,eqV _,eqV _,eqV _,eqV _]) [8,9,10,11,12,13,14,6] [[],[0],[1],[2],[],[4],[3,5],[6]] [0,1,2,3,4,5,6,7] (by kernel_rfl) Kept.refl Kept.trans (pick_stays ⟨eS _,eS _,eS _,eS _,eS _,eS _,eS _,eS _,trivial⟩) 103 rfl (by kernel_rfl) (by kernel_rfl) rfl rfl ?r6obl ?r6fin
    case r6obl=>
     refine ⟨?r6o0,?r6o1,?r6o2,?r6o3,?r6o4,?r6o5,?r6o6,?r6o7,trivial⟩
     case r6o0 | r6o4=>
      intro w1 hG;refine t1o (by rfl) ?_;intro K hK;go_simp;refine hK _ _ ⟨rfl,Kept.refl _,?_⟩;show _=_;simp only [gv1];rfl
     case r6o1 | r6o2=>
      intro w1 hG;intro va ha;change _=_ at ha;subst ha;refine t1o (by rfl) ?_;intro K hK;simp only [gv2];go_simp;refine hK _ _ ⟨rfl,Kept.refl _,?_⟩;show _=_;simp only [gv1];rfl
     case r6o3=>
      intro w1 hG;intro v2 h2;change _=_ at h2;subst h2;refine t1o (by rfl) ?_;intro K hK;simp only [gv2]
      have hGB:=kept_0 hG
      have hc:=cel hGB c10
      go_simp;refine hK _ _ ⟨rfl,Kept.refl _,?_⟩;show _=_;simp only [gv1];rfl
     case r6o5=>
      intro w1 hG;intro v4 h4;change _=_ at h4;subst h4;refine t1o (by rfl) ?_;intro K hK;simp only [gv2]
      have hGB:=kept_0 hG
      have hc:=cel hGB o1
      go_simp;refine hK _ _ ⟨rfl,Kept.refl _,?_⟩;show _=_;simp only [gv1];rfl
     case r6o6=>
      intro w1 hG;intro v3 h3;change _=_ at h3;subst h3;intro v5 h5;change _=_ at h5;subst h5;refine t1o (by rfl) ?_;intro K hK;simp only [gv2]
      have hGB:=kept_0 hG
      have hlk:=HL.out w1 hGB
      go_simp;refine hK _ _ ⟨rfl,Kept.refl _,?_⟩;show _=_;simp only [gv1];rfl
     case r6o7=>
      intro w1 hG;intro va ha;change _=_ at ha;subst ha;refine t1o (by rfl) ?_;intro K hK;simp only [gv2];go_simp;refine hK _ _ ⟨rfl,Kept.refl _,?_⟩;show _=_;simp only [gv1];rfl
    intro w1 hG;intro v0 h0;change _=_ at h0;subst h0;intro v1 h1;change _=_ at h1;subst h1;intro v2 h2;change _=_ at h2;subst h2;intro v3 h3;change _=_ at h3;subst h3;intro v4 h4;change _=_ at h4;subst h4;intro v5 h5;change _=_ at h5;subst h5;intro v6 h6;change _=_ at h6;subst h6;intro v7 h7;change _=_ at h7;subst h7
    simp only [Given,gv2]
    have hGB:=kept_0 hG
    clear hG;replace c7:=cel hGB c7;replace c8:=cel hGB c8;replace o0:=cel hGB o0;replace o1:=cel hGB o1;replace o2:=cel hGB o2;replace o3:=cel hGB o3;replace o4:=cel hGB o4
    have HB1:=Lib.hid (Below.call HB0.out hGB)
    replace HR:=Lib.hid (HR.out.below hGB);clear hGB c4 c6 c9 c10 c11 HL HROW
    go_wp2
    go_quiet (fail);go_wp2_with fail
    have hcall:=fun (q:Nat)=>map_out ra rn rc L ad (ad+n) pr (w1.drewN q) (RdS.below (m:=Rg.cells) (k:=3) HR.out (belowNp (Below.refl _ _) q)) HCN.out hRG9 HHI.out
    simp only [hE] at hcall
    refine (hcall _).mono ?_
    clear hcall
    rintro e w2 ⟨v,rfl,ho,hb⟩
    obtain ⟨a2,c2,rfl⟩:=ho.shape
    have c7b:w2.cell? ⟨h.m,7,none⟩=some (.int .i64 RG):=cel hb c7
    clear c7 c8 o0 o1 o2 o3 o4
    have HB2:=Lib.hid (Below.call (belowNp HB1.out _) hb)
    have HO:=Lib.hid (ho.mono (belowNp HB1.out _).size)
    clear ho hb
    go_wp2
    go_ret2
    exact ⟨_,_,_,rfl,(fun _=>HO.out),HB2.out⟩
  ·rw [if_neg (fun q=>hE q.1)]
   obtain ⟨E,hEE⟩:∃ x,mapE L ad (ad+n) pr=x:=⟨_,rfl⟩
   rw [hEE] at hE ⊢
   have dE:decide (E=0)=false:=decide_eq_false hE
   have bE:(E == 0)=false:=by simpa using hE
   go_enter Tryz.func65,Tryz.ntmps65
   go_wp2_with fail
   refine' reg_free (G:=Kept) (pickF [eqV _,eqV _,eqV _,eqV _,eqV _,eqV _,eqV _,eqV _]) [8,9,10,11,12,13,14,6] [[],[0],[1],[2],[],[4],[3,5],[6]] [0,1,2,3,4,5,6,7] (by kernel_rfl) Kept.refl Kept.trans (pick_stays ⟨eS _,eS _,eS _,eS _,eS _,eS _,eS _,eS _,trivial⟩) 103 rfl (by kernel_rfl) (by kernel_rfl) rfl rfl ?r7obl ?r7fin
   case r7obl=>
    refine ⟨?r7o0,?r7o1,?r7o2,?r7o3,?r7o4,?r7o5,?r7o6,?r7o7,trivial⟩
    case r7o0 | r7o4=>
     intro w1 hG;refine t1o (by rfl) ?_;intro K hK;go_simp;refine hK _ _ ⟨rfl,Kept.refl _,?_⟩;show _=_;simp only [gv1];rfl
    case r7o1 | r7o2=>
     intro w1 hG;intro va ha;change _=_ at ha;subst ha;refine t1o (by rfl) ?_;intro K hK;simp only [gv2];go_simp;refine hK _ _ ⟨rfl,Kept.refl _,?_⟩;show _=_;simp only [gv1];rfl
    case r7o3=>
     intro w1 hG;intro v2 h2;change _=_ at h2;subst h2;refine t1o (by rfl) ?_;intro K hK;simp only [gv2]
     have hGB:=kept_0 hG
     have hc:=cel hGB c10
     go_simp;refine hK _ _ ⟨rfl,Kept.refl _,?_⟩;show _=_;simp only [gv1];rfl
    case r7o5=>
     intro w1 hG;intro v4 h4;change _=_ at h4;subst h4;refine t1o (by rfl) ?_;intro K hK;simp only [gv2]
     have hGB:=kept_0 hG
     have hc:=cel hGB o1
     go_simp;refine hK _ _ ⟨rfl,Kept.refl _,?_⟩;show _=_;simp only [gv1];rfl
    case r7o6=>
     intro w1 hG;intro v3 h3;change _=_ at h3;subst h3;intro v5 h5;change _=_ at h5;subst h5;refine t1o (by rfl) ?_;intro K hK;simp only [gv2]
     have hGB:=kept_0 hG
     have hlk:=HL.out w1 hGB
     go_simp;refine hK _ _ ⟨rfl,Kept.refl _,?_⟩;show _=_;simp only [gv1];rfl
    case r7o7=>
     intro w1 hG;intro va ha;change _=_ at ha;subst ha;refine t1o (by rfl) ?_;intro K hK;simp only [gv2];go_simp;refine hK _ _ ⟨rfl,Kept.refl _,?_⟩;show _=_;simp only [gv1];rfl
   intro w1 hG;intro v0 h0;change _=_ at h0;subst h0;intro v1 h1;change _=_ at h1;subst h1;intro v2 h2;change _=_ at h2;subst h2;intro v3 h3;change _=_ at h3;subst h3;intro v4 h4;change _=_ at h4;subst h4;intro v5 h5;change _=_ at h5;subst h5;intro v6 h6;change _=_ at h6;subst h6;intro v7 h7;change _=_ at h7;subst h7
   simp only [Given,gv2]
   have hGB:=kept_0 hG
   clear hG;replace c7:=cel hGB c7;replace c8:=cel hGB c8;replace o0:=cel hGB o0;replace o1:=cel hGB o1;replace o2:=cel hGB o2;replace o3:=cel hGB o3;replace o4:=cel hGB o4
   have HB1:=Lib.hid (Below.call HB0.out hGB)
   replace HR:=Lib.hid (HR.out.below hGB);clear hGB c4 c6 c9 c10 c11 HL HROW
   go_wp2
   go_quiet (fail);go_wp2_with fail
   have hcall:=fun (q:Nat)=>map_out ra rn rc L ad (ad+n) pr (w1.drewN q) (RdS.below (m:=Rg.cells) (k:=3) HR.out (belowNp (Below.refl _ _) q)) HCN.out hRG9 HHI.out
   simp only [hEE] at hcall
   refine (hcall _).mono ?_
   clear hcall
   rintro e w2 ⟨v,rfl,ho,hb⟩
   obtain ⟨a2,c2,rfl⟩:=ho.shape
   have c7b:w2.cell? ⟨h.m,7,none⟩=some (.int .i64 RG):=cel hb c7
   clear c7 c8 o0 o1 o2 o3 o4
   have HB2:=Lib.hid (Below.call (belowNp HB1.out _) hb)
   have HO:=Lib.hid (ho.mono (belowNp HB1.out _).size)
   clear ho hb
   go_wp2
   go_ret2
   exact ⟨_,_,_,rfl,(fun h=>absurd h hE),HB2.out⟩
 have y2:decide (kd=2)=false:=decide_eq_false hk2
 have z2:(kd == 2)=false:=by simpa using hk2
 by_cases hk3:kd=3
 ·subst hk3
  have hE0:turnE0 L ⟨3,pid,ad,n,pr,d⟩=0:=by rfl
  have hL0:turnL L ⟨3,pid,ad,n,pr,d⟩=unL L ad (ad+n):=by rfl
  rw [hE0,hL0];clear hE0 hL0
  by_cases hln:RG < ((unL L ad (ad+n)).length:Int)
  ·rw [if_pos ⟨rfl,hln⟩]
   have dl:=decide_eq_true hln
   go_enter Tryz.func65,Tryz.ntmps65
   go_wp2_with fail
   refine' reg_free (G:=Kept) (pickF [eqV _,eqV _,eqV _,eqV _,eqV _,eqV _,eqV _,eqV _]) [8,9,10,11,12,13,14,6] [[],[0],[1],[2],[],[4],[3,5],[6]] [0,1,2,3,4,5,6,7] (by kernel_rfl) Kept.refl Kept.trans (pick_stays ⟨eS _,eS _,eS _,eS _,eS _,eS _,eS _,eS _,trivial⟩) 103 rfl (by kernel_rfl) (by kernel_rfl) rfl rfl ?r8obl ?r8fin
   case r8obl=>
    refine ⟨?r8o0,?r8o1,?r8o2,?r8o3,?r8o4,?r8o5,?r8o6,?r8o7,trivial⟩
    case r8o0 | r8o4=>
     intro w1 hG;refine t1o (by rfl) ?_;intro K hK;go_simp;refine hK _ _ ⟨rfl,Kept.refl _,?_⟩;show _=_;simp only [gv1];rfl
    case r8o1 | r8o2=>
     intro w1 hG;intro va ha;change _=_ at ha;subst ha;refine t1o (by rfl) ?_;intro K hK;simp only [gv2];go_simp;refine hK _ _ ⟨rfl,Kept.refl _,?_⟩;show _=_;simp only [gv1];rfl
    case r8o3=>
     intro w1 hG;intro v2 h2;change _=_ at h2;subst h2;refine t1o (by rfl) ?_;intro K hK;simp only [gv2]
     have hGB:=kept_0 hG
     have hc:=cel hGB c10
     go_simp;refine hK _ _ ⟨rfl,Kept.refl _,?_⟩;show _=_;simp only [gv1];rfl
    case r8o5=>
     intro w1 hG;intro v4 h4;change _=_ at h4;subst h4;refine t1o (by rfl) ?_;intro K hK;simp only [gv2]
     have hGB:=kept_0 hG
     have hc:=cel hGB o1
     go_simp;refine hK _ _ ⟨rfl,Kept.refl _,?_⟩;show _=_;simp only [gv1];rfl
    case r8o6=>
     intro w1 hG;intro v3 h3;change _=_ at h3;subst h3;intro v5 h5;change _=_ at h5;subst h5;refine t1o (by rfl) ?_;intro K hK;simp only [gv2]
     have hGB:=kept_0 hG
     have hlk:=HL.out w1 hGB
     go_simp;refine hK _ _ ⟨rfl,Kept.refl _,?_⟩;show _=_;simp only [gv1];rfl
    case r8o7=>
     intro w1 hG;intro va ha;change _=_ at ha;subst ha;refine t1o (by rfl) ?_;intro K hK;simp only [gv2];go_simp;refine hK _ _ ⟨rfl,Kept.refl _,?_⟩;show _=_;simp only [gv1];rfl
   intro w1 hG;intro v0 h0;change _=_ at h0;subst h0;intro v1 h1;change _=_ at h1;subst h1;intro v2 h2;change _=_ at h2;subst h2;intro v3 h3;change _=_ at h3;subst h3;intro v4 h4;change _=_ at h4;subst h4;intro v5 h5;change _=_ at h5;subst h5;intro v6 h6;change _=_ at h6;subst h6;intro v7 h7;change _=_ at h7;subst h7
   simp only [Given,gv2]
   have hGB:=kept_0 hG
   clear hG;replace c7:=cel hGB c7;replace c8:=cel hGB c8;replace o0:=cel hGB o0;replace o1:=cel hGB o1;replace o2:=cel hGB o2;replace o3:=cel hGB o3;replace o4:=cel hGB o4
   have HB1:=Lib.hid (Below.call HB0.out hGB)
   replace HR:=Lib.hid (HR.out.below hGB);clear hGB c4 c6 c9 c10 c11 HL HROW
   go_wp2
   go_quiet (fail);go_wp2_with fail
   have hcall:=fun (q:Nat)=>un_out ra rn rc L ad (ad+n) (w1.drewN q) (RdS.below (m:=Rg.cells) (k:=3) HR.out (belowNp (Below.refl _ _) q)) HCN.out hRG9
   refine (hcall _).mono ?_
   clear hcall
   rintro e w2 ⟨v,rfl,ho,hb⟩
   obtain ⟨a2,c2,rfl⟩:=ho.shape
   have c7b:w2.cell? ⟨h.m,7,none⟩=some (.int .i64 RG):=cel hb c7
   clear c7 c8 o0 o1 o2 o3 o4
   have HB2:=Lib.hid (Below.call (belowNp HB1.out _) hb)
   have HO:=Lib.hid (ho.mono (belowNp HB1.out _).size)
   clear ho hb
   go_wp2
   go_ret2
   exact ⟨_,_,_,rfl,(fun h=>absurd h (by decide)),HB2.out⟩
  ·rw [if_neg (fun q=>hln q.2)]
   have dl:=decide_eq_false hln
   go_enter Tryz.func65,Tryz.ntmps65
   go_wp2_with fail
   refine' reg_free (G:=Kept) (pickF [eqV _,eqV _,eqV _,eqV _,eqV _,eqV _,eqV _,eqV _]) [8,9,10,11,12,13,14,6] [[],[0],[1],[2],[],[4],[3,5],[6]] [0,1,2,3,4,5,6,7] (by kernel_rfl) Kept.refl Kept.trans (pick_stays ⟨eS _,eS _,eS _,eS _,eS _,eS _,eS _,eS _,trivial⟩) 103 rfl (by kernel_rfl) (by kernel_rfl) rfl rfl ?r9obl ?r9fin
   case r9obl=>
    refine ⟨?r9o0,?r9o1,?r9o2,?r9o3,?r9o4,?r9o5,?r9o6,?r9o7,trivial⟩
    case r9o0 | r9o4=>
     intro w1 hG;refine t1o (by rfl) ?_;intro K hK;go_simp;refine hK _ _ ⟨rfl,Kept.refl _,?_⟩;show _=_;simp only [gv1];rfl
    case r9o1 | r9o2=>
     intro w1 hG;intro va ha;change _=_ at ha;subst ha;refine t1o (by rfl) ?_;intro K hK;simp only [gv2];go_simp;refine hK _ _ ⟨rfl,Kept.refl _,?_⟩;show _=_;simp only [gv1];rfl
    case r9o3=>
     intro w1 hG;intro v2 h2;change _=_ at h2;subst h2;refine t1o (by rfl) ?_;intro K hK;simp only [gv2]
     have hGB:=kept_0 hG
     have hc:=cel hGB c10
     go_simp;refine hK _ _ ⟨rfl,Kept.refl _,?_⟩;show _=_;simp only [gv1];rfl
    case r9o5=>
     intro w1 hG;intro v4 h4;change _=_ at h4;subst h4;refine t1o (by rfl) ?_;intro K hK;simp only [gv2]
     have hGB:=kept_0 hG
     have hc:=cel hGB o1
     go_simp;refine hK _ _ ⟨rfl,Kept.refl _,?_⟩;show _=_;simp only [gv1];rfl
    case r9o6=>
     intro w1 hG;intro v3 h3;change _=_ at h3;subst h3;intro v5 h5;change _=_ at h5;subst h5;refine t1o (by rfl) ?_;intro K hK;simp only [gv2]
     have hGB:=kept_0 hG
     have hlk:=HL.out w1 hGB
     go_simp;refine hK _ _ ⟨rfl,Kept.refl _,?_⟩;show _=_;simp only [gv1];rfl
    case r9o7=>
     intro w1 hG;intro va ha;change _=_ at ha;subst ha;refine t1o (by rfl) ?_;intro K hK;simp only [gv2];go_simp;refine hK _ _ ⟨rfl,Kept.refl _,?_⟩;show _=_;simp only [gv1];rfl
   intro w1 hG;intro v0 h0;change _=_ at h0;subst h0;intro v1 h1;change _=_ at h1;subst h1;intro v2 h2;change _=_ at h2;subst h2;intro v3 h3;change _=_ at h3;subst h3;intro v4 h4;change _=_ at h4;subst h4;intro v5 h5;change _=_ at h5;subst h5;intro v6 h6;change _=_ at h6;subst h6;intro v7 h7;change _=_ at h7;subst h7
   simp only [Given,gv2]
   have hGB:=kept_0 hG
   clear hG;replace c7:=cel hGB c7;replace c8:=cel hGB c8;replace o0:=cel hGB o0;replace o1:=cel hGB o1;replace o2:=cel hGB o2;replace o3:=cel hGB o3;replace o4:=cel hGB o4
   have HB1:=Lib.hid (Below.call HB0.out hGB)
   replace HR:=Lib.hid (HR.out.below hGB);clear hGB c4 c6 c9 c10 c11 HL HROW
   go_wp2
   go_quiet (fail);go_wp2_with fail
   have hcall:=fun (q:Nat)=>un_out ra rn rc L ad (ad+n) (w1.drewN q) (RdS.below (m:=Rg.cells) (k:=3) HR.out (belowNp (Below.refl _ _) q)) HCN.out hRG9
   refine (hcall _).mono ?_
   clear hcall
   rintro e w2 ⟨v,rfl,ho,hb⟩
   obtain ⟨a2,c2,rfl⟩:=ho.shape
   have c7b:w2.cell? ⟨h.m,7,none⟩=some (.int .i64 RG):=cel hb c7
   clear c7 c8 o0 o1 o2 o3 o4
   have HB2:=Lib.hid (Below.call (belowNp HB1.out _) hb)
   have HO:=Lib.hid (ho.mono (belowNp HB1.out _).size)
   clear ho hb
   go_wp2
   go_ret2
   exact ⟨_,_,_,rfl,(fun _=>HO.out),HB2.out⟩
 have y3:decide (kd=3)=false:=decide_eq_false hk3
 have z3:(kd == 3)=false:=by simpa using hk3
 have hE0:turnE0 L ⟨kd,pid,ad,n,pr,d⟩=proE L ad (ad+n) pr:=by unfold turnE0;rw [if_neg hk2,if_neg hk3]
 have hL0:turnL L ⟨kd,pid,ad,n,pr,d⟩=proL L ad (ad+n) pr:=by unfold turnL;rw [if_neg hk2,if_neg hk3]
 rw [hE0,hL0];clear hE0 hL0
 by_cases hE:proE L ad (ad+n) pr=0
 ·rw [hE]
  by_cases hln:RG < ((proL L ad (ad+n) pr).length:Int)
  ·rw [if_pos ⟨rfl,hln⟩]
   have dl:=decide_eq_true hln
   go_enter Tryz.func65,Tryz.ntmps65
   go_wp2_with fail
   refine' reg_free (G:=Kept) (pickF [eqV _,eqV _,eqV _,eqV _,eqV _,eqV _,eqV _,eqV _]) [8,9,10,11,12,13,14,6] [[],[0],[1],[2],[],[4],[3,5],[6]] [0,1,2,3,4,5,6,7] (by kernel_rfl) Kept.refl Kept.trans (pick_stays ⟨eS _,eS _,eS _,eS _,eS _,eS _,eS _,eS _,trivial⟩) 103 rfl (by kernel_rfl) (by kernel_rfl) rfl rfl ?r10obl ?r10fin
   case r10obl=>
    refine ⟨?r10o0,?r10o1,?r10o2,?r10o3,?r10o4,?r10o5,?r10o6,?r10o7,trivial⟩
    case r10o0 | r10o4=>
     intro w1 hG;refine t1o (by rfl) ?_;intro K hK;go_simp;refine hK _ _ ⟨rfl,Kept.refl _,?_⟩;show _=_;simp only [gv1];rfl
    case r10o1 | r10o2=>
     intro w1 hG;intro va ha;change _=_ at ha;subst ha;refine t1o (by rfl) ?_;intro K hK;simp only [gv2];go_simp;refine hK _ _ ⟨rfl,Kept.refl _,?_⟩;show _=_;simp only [gv1];rfl
    case r10o3=>
     intro w1 hG;intro v2 h2;change _=_ at h2;subst h2;refine t1o (by rfl) ?_;intro K hK;simp only [gv2]
     have hGB:=kept_0 hG
     have hc:=cel hGB c10
     go_simp;refine hK _ _ ⟨rfl,Kept.refl _,?_⟩;show _=_;simp only [gv1];rfl
    case r10o5=>
     intro w1 hG;intro v4 h4;change _=_ at h4;subst h4;refine t1o (by rfl) ?_;intro K hK;simp only [gv2]
     have hGB:=kept_0 hG
     have hc:=cel hGB o1
     go_simp;refine hK _ _ ⟨rfl,Kept.refl _,?_⟩;show _=_;simp only [gv1];rfl
    case r10o6=>
     intro w1 hG;intro v3 h3;change _=_ at h3;subst h3;intro v5 h5;change _=_ at h5;subst h5;refine t1o (by rfl) ?_;intro K hK;simp only [gv2]
     have hGB:=kept_0 hG
     have hlk:=HL.out w1 hGB
     go_simp;refine hK _ _ ⟨rfl,Kept.refl _,?_⟩;show _=_;simp only [gv1];rfl
    case r10o7=>
     intro w1 hG;intro va ha;change _=_ at ha;subst ha;refine t1o (by rfl) ?_;intro K hK;simp only [gv2];go_simp;refine hK _ _ ⟨rfl,Kept.refl _,?_⟩;show _=_;simp only [gv1];rfl
   intro w1 hG;intro v0 h0;change _=_ at h0;subst h0;intro v1 h1;change _=_ at h1;subst h1;intro v2 h2;change _=_ at h2;subst h2;intro v3 h3;change _=_ at h3;subst h3;intro v4 h4;change _=_ at h4;subst h4;intro v5 h5;change _=_ at h5;subst h5;intro v6 h6;change _=_ at h6;subst h6;intro v7 h7;change _=_ at h7;subst h7
   simp only [Given,gv2]
   have hGB:=kept_0 hG
   clear hG;replace c7:=cel hGB c7;replace c8:=cel hGB c8;replace o0:=cel hGB o0;replace o1:=cel hGB o1;replace o2:=cel hGB o2;replace o3:=cel hGB o3;replace o4:=cel hGB o4
   have HB1:=Lib.hid (Below.call HB0.out hGB)
   replace HR:=Lib.hid (HR.out.below hGB);clear hGB c4 c6 c9 c10 c11 HL HROW
   go_wp2
   go_quiet (fail);go_wp2_with fail
   have hcall:=fun (q:Nat)=>pro_out ra rn rc L ad (ad+n) pr (w1.drewN q) (RdS.below (m:=Rg.cells) (k:=3) HR.out (belowNp (Below.refl _ _) q)) HCN.out hRG9 HHI.out
   simp only [hE] at hcall
   refine (hcall _).mono ?_
   clear hcall
   rintro e w2 ⟨v,rfl,ho,hb⟩
   obtain ⟨a2,c2,rfl⟩:=ho.shape
   have c7b:w2.cell? ⟨h.m,7,none⟩=some (.int .i64 RG):=cel hb c7
   clear c7 c8 o0 o1 o2 o3 o4
   have HB2:=Lib.hid (Below.call (belowNp HB1.out _) hb)
   have HO:=Lib.hid (ho.mono (belowNp HB1.out _).size)
   clear ho hb
   go_wp2
   go_ret2
   exact ⟨_,_,_,rfl,(fun h=>absurd h (by decide)),HB2.out⟩
  ·rw [if_neg (fun q=>hln q.2)]
   have dl:=decide_eq_false hln
   go_enter Tryz.func65,Tryz.ntmps65
   go_wp2_with fail
   refine' reg_free (G:=Kept) (pickF [eqV _,eqV _,eqV _,eqV _,eqV _,eqV _,eqV _,eqV _]) [8,9,10,11,12,13,14,6] [[],[0],[1],[2],[],[4],[3,5],[6]] [0,1,2,3,4,5,6,7] (by kernel_rfl) Kept.refl Kept.trans (pick_stays ⟨eS _,eS _,eS _,eS _,eS _,eS _,eS _,eS _,trivial⟩) 103 rfl (by kernel_rfl) (by kernel_rfl) rfl rfl ?r11obl ?r11fin
   case r11obl=>
    refine ⟨?r11o0,?r11o1,?r11o2,?r11o3,?r11o4,?r11o5,?r11o6,?r11o7,trivial⟩
    case r11o0 | r11o4=>
     intro w1 hG;refine t1o (by rfl) ?_;intro K hK;go_simp;refine hK _ _ ⟨rfl,Kept.refl _,?_⟩;show _=_;simp only [gv1];rfl
    case r11o1 | r11o2=>
     intro w1 hG;intro va ha;change _=_ at ha;subst ha;refine t1o (by rfl) ?_;intro K hK;simp only [gv2];go_simp;refine hK _ _ ⟨rfl,Kept.refl _,?_⟩;show _=_;simp only [gv1];rfl
    case r11o3=>
     intro w1 hG;intro v2 h2;change _=_ at h2;subst h2;refine t1o (by rfl) ?_;intro K hK;simp only [gv2]
     have hGB:=kept_0 hG
     have hc:=cel hGB c10
     go_simp;refine hK _ _ ⟨rfl,Kept.refl _,?_⟩;show _=_;simp only [gv1];rfl
    case r11o5=>
     intro w1 hG;intro v4 h4;change _=_ at h4;subst h4;refine t1o (by rfl) ?_;intro K hK;simp only [gv2]
     have hGB:=kept_0 hG
     have hc:=cel hGB o1
     go_simp;refine hK _ _ ⟨rfl,Kept.refl _,?_⟩;show _=_;simp only [gv1];rfl
    case r11o6=>
     intro w1 hG;intro v3 h3;change _=_ at h3;subst h3;intro v5 h5;change _=_ at h5;subst h5;refine t1o (by rfl) ?_;intro K hK;simp only [gv2]
     have hGB:=kept_0 hG
     have hlk:=HL.out w1 hGB
     go_simp;refine hK _ _ ⟨rfl,Kept.refl _,?_⟩;show _=_;simp only [gv1];rfl
    case r11o7=>
     intro w1 hG;intro va ha;change _=_ at ha;subst ha;refine t1o (by rfl) ?_;intro K hK;simp only [gv2];go_simp;refine hK _ _ ⟨rfl,Kept.refl _,?_⟩;show _=_;simp only [gv1];rfl
   intro w1 hG;intro v0 h0;change _=_ at h0;subst h0;intro v1 h1;change _=_ at h1;subst h1;intro v2 h2;change _=_ at h2;subst h2;intro v3 h3;change _=_ at h3;subst h3;intro v4 h4;change _=_ at h4;subst h4;intro v5 h5;change _=_ at h5;subst h5;intro v6 h6;change _=_ at h6;subst h6;intro v7 h7;change _=_ at h7;subst h7
   simp only [Given,gv2]
   have hGB:=kept_0 hG
   clear hG;replace c7:=cel hGB c7;replace c8:=cel hGB c8;replace o0:=cel hGB o0;replace o1:=cel hGB o1;replace o2:=cel hGB o2;replace o3:=cel hGB o3;replace o4:=cel hGB o4
   have HB1:=Lib.hid (Below.call HB0.out hGB)
   replace HR:=Lib.hid (HR.out.below hGB);clear hGB c4 c6 c9 c10 c11 HL HROW
   go_wp2
   go_quiet (fail);go_wp2_with fail
   have hcall:=fun (q:Nat)=>pro_out ra rn rc L ad (ad+n) pr (w1.drewN q) (RdS.below (m:=Rg.cells) (k:=3) HR.out (belowNp (Below.refl _ _) q)) HCN.out hRG9 HHI.out
   simp only [hE] at hcall
   refine (hcall _).mono ?_
   clear hcall
   rintro e w2 ⟨v,rfl,ho,hb⟩
   obtain ⟨a2,c2,rfl⟩:=ho.shape
   have c7b:w2.cell? ⟨h.m,7,none⟩=some (.int .i64 RG):=cel hb c7
   clear c7 c8 o0 o1 o2 o3 o4
   have HB2:=Lib.hid (Below.call (belowNp HB1.out _) hb)
   have HO:=Lib.hid (ho.mono (belowNp HB1.out _).size)
   clear ho hb
   go_wp2
   go_ret2
   exact ⟨_,_,_,rfl,(fun _=>HO.out),HB2.out⟩
 ·rw [if_neg (fun q=>hE q.1)]
  obtain ⟨E,hEE⟩:∃ x,proE L ad (ad+n) pr=x:=⟨_,rfl⟩
  rw [hEE] at hE ⊢
  have dE:decide (E=0)=false:=decide_eq_false hE
  have bE:(E == 0)=false:=by simpa using hE
  go_enter Tryz.func65,Tryz.ntmps65
  go_wp2_with fail
  refine' reg_free (G:=Kept) (pickF [eqV _,eqV _,eqV _,eqV _,eqV _,eqV _,eqV _,eqV _]) [8,9,10,11,12,13,14,6] [[],[0],[1],[2],[],[4],[3,5],[6]] [0,1,2,3,4,5,6,7] (by kernel_rfl) Kept.refl Kept.trans (pick_stays ⟨eS _,eS _,eS _,eS _,eS _,eS _,eS _,eS _,trivial⟩) 103 rfl (by kernel_rfl) (by kernel_rfl) rfl rfl ?r12obl ?r12fin
  case r12obl=>
   refine ⟨?r12o0,?r12o1,?r12o2,?r12o3,?r12o4,?r12o5,?r12o6,?r12o7,trivial⟩
   case r12o0 | r12o4=>
    intro w1 hG;refine t1o (by rfl) ?_;intro K hK;go_simp;refine hK _ _ ⟨rfl,Kept.refl _,?_⟩;show _=_;simp only [gv1];rfl
   case r12o1 | r12o2=>
    intro w1 hG;intro va ha;change _=_ at ha;subst ha;refine t1o (by rfl) ?_;intro K hK;simp only [gv2];go_simp;refine hK _ _ ⟨rfl,Kept.refl _,?_⟩;show _=_;simp only [gv1];rfl
   case r12o3=>
    intro w1 hG;intro v2 h2;change _=_ at h2;subst h2;refine t1o (by rfl) ?_;intro K hK;simp only [gv2]
    have hGB:=kept_0 hG
    have hc:=cel hGB c10
    go_simp;refine hK _ _ ⟨rfl,Kept.refl _,?_⟩;show _=_;simp only [gv1];rfl
   case r12o5=>
    intro w1 hG;intro v4 h4;change _=_ at h4;subst h4;refine t1o (by rfl) ?_;intro K hK;simp only [gv2]
    have hGB:=kept_0 hG
    have hc:=cel hGB o1
    go_simp;refine hK _ _ ⟨rfl,Kept.refl _,?_⟩;show _=_;simp only [gv1];rfl
   case r12o6=>
    intro w1 hG;intro v3 h3;change _=_ at h3;subst h3;intro v5 h5;change _=_ at h5;subst h5;refine t1o (by rfl) ?_;intro K hK;simp only [gv2]
    have hGB:=kept_0 hG
    have hlk:=HL.out w1 hGB
    go_simp;refine hK _ _ ⟨rfl,Kept.refl _,?_⟩;show _=_;simp only [gv1];rfl
   case r12o7=>
    intro w1 hG;intro va ha;change _=_ at ha;subst ha;refine t1o (by rfl) ?_;intro K hK;simp only [gv2];go_simp;refine hK _ _ ⟨rfl,Kept.refl _,?_⟩;show _=_;simp only [gv1];rfl
  intro w1 hG;intro v0 h0;change _=_ at h0;subst h0;intro v1 h1;change _=_ at h1;subst h1;intro v2 h2;change _=_ at h2;subst h2;intro v3 h3;change _=_ at h3;subst h3;intro v4 h4;change _=_ at h4;subst h4;intro v5 h5;change _=_ at h5;subst h5;intro v6 h6;change _=_ at h6;subst h6;intro v7 h7;change _=_ at h7;subst h7
  simp only [Given,gv2]
  have hGB:=kept_0 hG
  clear hG;replace c7:=cel hGB c7;replace c8:=cel hGB c8;replace o0:=cel hGB o0;replace o1:=cel hGB o1;replace o2:=cel hGB o2;replace o3:=cel hGB o3;replace o4:=cel hGB o4
  have HB1:=Lib.hid (Below.call HB0.out hGB)
  replace HR:=Lib.hid (HR.out.below hGB);clear hGB c4 c6 c9 c10 c11 HL HROW
  go_wp2
  go_quiet (fail);go_wp2_with fail
  have hcall:=fun (q:Nat)=>pro_out ra rn rc L ad (ad+n) pr (w1.drewN q) (RdS.below (m:=Rg.cells) (k:=3) HR.out (belowNp (Below.refl _ _) q)) HCN.out hRG9 HHI.out
  simp only [hEE] at hcall
  refine (hcall _).mono ?_
  clear hcall
  rintro e w2 ⟨v,rfl,ho,hb⟩
  obtain ⟨a2,c2,rfl⟩:=ho.shape
  have c7b:w2.cell? ⟨h.m,7,none⟩=some (.int .i64 RG):=cel hb c7
  clear c7 c8 o0 o1 o2 o3 o4
  have HB2:=Lib.hid (Below.call (belowNp HB1.out _) hb)
  have HO:=Lib.hid (ho.mono (belowNp HB1.out _).size)
  clear ho hb
  go_wp2
  go_ret2
  exact ⟨_,_,_,rfl,(fun h=>absurd h hE),HB2.out⟩
end
end Go.Proofs.YtoepnbfifjgpfaaGreat
