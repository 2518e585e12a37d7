/- The machine: a machine apart (Twin). How many pages of a process two machines do not have alike (unlike). Whether two machines are the same (Same). How much two machines differ (Delta). How much two machines differ, plainly: the same from both sides; nothing where they are the same; at most what both weigh. A fork, plainly: how much it weighs; what another process does leaves one as it was. model: a row of slices of bytes beside a machine (as ring's, with Tn for what turned). -/
import Derived.Test.YtoepnbfifjgpfaaGreatMu0
import Derived.Test.YtoepnbfifjgpfaaGreatMu21
import Derived.Test.YtoepnbfifjgpfaaGreatMu22
import Derived.Test.YtoepnbfifjgpfaaGreatMp9
import Derived.Test.YtoepnbfifjgpfaaGreatMu14
import Derived.Test.YtoepnbfifjgpfaaGreatMu20
import Derived.Shelf.SlMaps.Clone
import Derived.WalkKit
import Derived.ProofKit
import Derived.BigQuiet
import Derived.Deep.QuietTactic
import Derived.Lib.Hide
import Derived.RegionTactic
import Derived.Test.YtoepnbfifjgpfaaGreatMu24
import Derived.Test.YtoepnbfifjgpfaaGreatMu15
import Derived.Test.YtoepnbfifjgpfaaGreatMu1
import Derived.Test.YtoepnbfifjgpfaaGreatMu10
import Derived.OwnWalk
namespace Go.Proofs.YtoepnbfifjgpfaaGreat
set_option maxRecDepth 100000
open Go.RowKit
set_option linter.unusedSimpArgs false
theorem mapsClone_any (b:Nat) (es:Array MapEntry) (clock:Nat) (w:World) (hb:w.heap[b]?=some (.map es clock)) :
  Calls Tryz.prog 50 #[.map (some b)] w fun e w'=>e = .returned (.map (some w.heap.size))∧w'=w.alloc (.map es clock):=by
 have hq:=fun w=>run_eql_map_nil_sl (P:=Tryz.prog) w 99 _ _ (some b) Tryz.underlying99
 go_enter Tryz.func50,Tryz.ntmps50
 go_wp2
 rw [run_callFunc_extern Tryz.func86 (by kernel_rfl) (by kernel_rfl) (by kernel_rfl) (e:=Extern.MapsClone.clone) (by kernel_rfl),run_maps_clone_sl w 99 hb]
 simp only [Result.andThen]
 rw [Oper.upon_value]
 go_wp2
 rw [run_typeAssert_map_sl _ 99 _ _ _ _ Tryz.underlying99]
 simp only [Result.andThen]
 rw [Oper.upon_value]
 go_wp2
 go_ret
 exact ⟨rfl,rfl⟩
/-- A set's own processes make it anew. -/
theorem ofL_part {n:Nat} (hn:n≤64) (v:BitVec 64):∀ k,k≤n→∃ u:BitVec 64,(∀ i,i < 64→u.getLsbD i=(decide (i < k) && v.getLsbD i))∧∀ r,ofL n 0#64 (pidsK v k ++ r)=ofL n u r
 | 0,_=>⟨0#64,fun i hi=>by simp,fun r=>rfl⟩
 | k+1,hk=>by
  obtain ⟨u,hu,hr⟩:=ofL_part hn v k (by omega)
  rw [pidsK]
  by_cases hb:v.getLsbD k=true
  ·rw [if_pos hb]
   refine ⟨u ||| qbit k,fun i hi=>?_,fun r=>?_⟩
   ·rw [BitVec.getLsbD_or,hu i hi,qbit_get k i hi]
    by_cases e:i=k
    ·subst e;simp [hb]
    ·have e2:decide (i < k+1)=decide (i < k):=by congr 1;simp;omega
     rw [e2];simp [e]
   ·rw [List.append_assoc,hr,List.singleton_append,ofL]
    have h0:u.getLsbD k=false:=by rw [hu k (by omega)];simp
    rw [if_pos ⟨by omega,by omega,by simpa using h0⟩]
    rfl
  ·rw [if_neg hb]
   refine ⟨u,fun i hi=>?_,hr⟩
   rw [hu i hi]
   by_cases e:i=k
   ·subst e;simp at hb;simp [hb]
   ·have e2:decide (i < k+1)=decide (i < k):=by congr 1;simp;omega
    rw [e2]
theorem ofL_pids {n:Nat} (hn:n≤64) {v:BitVec 64} (hl:lowB v n):ofL n 0#64 (pidsK v n)=some v:=by
 obtain ⟨u,hu,hr⟩:=ofL_part hn v n (Nat.le_refl n)
 have h1:=hr []
 rw [List.append_nil] at h1;rw [h1,ofL]
 congr 1
 apply BitVec.eq_of_getLsbD_eq
 intro i hi;rw [hu i hi]
 by_cases e:i < n
 ·simp [e]
 ·simp [e,hl i (by omega)]
/-- What a machine's twin has of its regions. -/
structure TwR (st:Mc) (No:Nat→Prop) (w:World) (lb lb2:Nat) (D:List (Int × Value)) (r:Nat) (wr:World) (L X D2:List (Int × Value)):Prop where
 it:IterG MR wr lb r D L
 all:D.Perm (L ++ X)
 mp:MapG MR wr lb2 D2
 own:∀ p ∈ D2,RgV wr No p.2 (st.rs p.1)∧∃ v,(p.1,v) ∈ X
 cov:∀ p ∈ X,∃ v,(p.1,v) ∈ D2
 bel:Tn (fun k=>k=lb2) w wr
theorem IterG.tn {P:Program} {T k e:TypeId} {κ ν:Type} {M:MapK P T k e κ ν} {Q:Nat→Prop} {w w':World} {b r:Nat} {D L:List (κ × ν)} (h:IterG M w b r D L) (t:Tn Q w w') (hb:¬ Q b) (hr:¬ Q r):IterG M w' b r D L:=by
 have l1:=h.map.lt
 have l2:=h.lt
 obtain ⟨es,clock,since,seen,c0,h1,h2,h3,h4,h5⟩:=h.all
 exact ⟨es,clock,since,seen,c0,(t.block b l1 hb).trans h1,h2,h3,(t.block r l2 hr).trans h4,h5⟩
section
variable {No:Nat→Prop} {h:McH} {st:Mc} {w:World}
set_option maxHeartbeats 4000000 in
theorem twin_any (i:McIn w No h st):Calls Tryz.prog 24 #[.pointer (some ⟨h.m,0,none⟩)] w fun e w'=>∃ h':McH,e = .returned (.pointer (some ⟨h'.m,0,none⟩))∧McIn w' (fun k=>No k∨h'.own k) h' st∧(∀ k,h'.own k→w.heap.size≤k)∧w.heap.size≤h'.m∧Below w.heap.size w w':=by
 obtain ⟨c4,c6,c7,c8,c9,c10,c11⟩:=i.cells
 have HI:=Lib.hid i;have HPR:=Lib.hid i.ok.prI;have HP12:=Lib.hid i.ok.prL
 have HOF:Hid (ofL st.pr 0#64 (pidsK st.v st.pr)=some st.v):=ofL_pids i.ok.prL.2 i.ok.low
 have hc6:w.cell? ⟨h.m,6,none⟩=some (.int .i64 (st.pr:Int)):=by rw [i.ok.prI];exact c6
 have hcell:=i.row
 unfold mcRow at hcell
 have HROW:=Lib.hid hcell;clear hcell c6 i c4 c7 c8 c9
 go_enter Tryz.func24,Tryz.ntmps24
 go_wp2_with fail
 refine' reg_free (G:=Kept) (pickF [eqV _,eqV _,eqV _,eqV _,eqV _,eqV _,(fun v w5=>∃ a n c,v = .slice a n c∧RdAt .i64 w5 a n c (pidsK st.v st.pr)),(fun v w5=>∃ g,v = .tuple #[.pointer (some ⟨g,0,none⟩),.int .i64 0]∧w.heap.size≤g∧SetAt w5 g st.pr st.v),(fun v w5=>∃ g,v = .tuple #[.pointer (some ⟨g,0,none⟩),.int .i64 0]∧w.heap.size≤g∧SetAt w5 g st.pr st.v),(fun v w5=>∃ g,v = .pointer (some ⟨g,0,none⟩)∧w.heap.size≤g∧SetAt w5 g st.pr st.v),eqV _,(fun v w5=>∃ g,v = .pointer (some ⟨g,0,none⟩)∧w.heap.size≤g∧SetAt w5 g st.pr st.v),eqV _]) [9,10,11,12,13,14,15,16,8,17,18,3,4] [[],[0],[1],[2],[3],[],[5],[4,6],[7],[8],[8],[9],[10]] [0,1,2,3,4,5,6,7,8,9,10,11,12] (by kernel_rfl) Kept.refl Kept.trans (pick_stays ⟨eS _,eS _,eS _,eS _,eS _,eS _,(fun _ _ _ p b=>by obtain ⟨a,n,c,e,h1⟩:=p;exact ⟨a,n,c,e,h1.below b⟩),(fun _ _ _ p b=>by obtain ⟨g,e,h1,h2⟩:=p;exact ⟨g,e,h1,h2.below b⟩),(fun _ _ _ p b=>by obtain ⟨g,e,h1,h2⟩:=p;exact ⟨g,e,h1,h2.below b⟩),(fun _ _ _ p b=>by obtain ⟨g,e,h1,h2⟩:=p;exact ⟨g,e,h1,h2.below b⟩),eS _,(fun _ _ _ p b=>by obtain ⟨g,e,h1,h2⟩:=p;exact ⟨g,e,h1,h2.below b⟩),eS _,trivial⟩) 50 rfl (by kernel_rfl) (by kernel_rfl) rfl rfl ?r1obl ?r1fin
 case r1obl=>
  refine ⟨?r1o0,?r1o1,?r1o2,?r1o3,?r1o4,?r1o5,?r1o6,?r1o7,?r1o8,?r1o9,?r1o10,?r1o11,?r1o12,trivial⟩
  case r1o0 | r1o5=>
   intro w1 hG;refine t1o (by rfl) ?_;intro K hK;go_simp;refine hK _ _ ⟨rfl,Kept.refl _,?_⟩;show _=_;simp only [gv1];rfl
  case r1o1 | r1o2 | r1o3=>
   intro w1 hG;intro va ha;change _=_ at ha;subst ha;refine t1o (by rfl) ?_;intro K hK;simp only [gv2];go_simp;refine hK _ _ ⟨rfl,Kept.refl _,?_⟩;show _=_;simp only [gv1];rfl
  case r1o4=>
   intro w1 hG;intro v3 h3;change _=_ at h3;subst h3;refine t1o (by rfl) ?_;intro K hK;simp only [gv2]
   have hc:=cel (kept_0 hG) hc6
   go_simp;refine hK _ _ ⟨rfl,Kept.refl _,?_⟩;show _=_;simp only [gv1];rfl
  case r1o6=>
   intro w1 hG;intro v5 h5;change _=_ at h5;subst h5;refine t1o (by rfl) ?_;intro K hK;simp only [gv2];go_simp
   refine Calls.mono (pids_any (HI.out.below (kept_0 hG))) ?_
   rintro e w2 ⟨vv,rfl,hov,hbx⟩
   refine hK _ _ ⟨rfl,hbx,?_⟩
   obtain ⟨a9,c9,rfl⟩:=hov.shape
   exact ⟨_,_,_,rfl,hov.rd⟩
  case r1o7=>
   intro w1 hG;intro v4 h4;change _=_ at h4;subst h4;intro v6 h6
   obtain ⟨a6,n6,c6,rfl,h6⟩:=h6
   refine t1o (by rfl) ?_;intro K hK;simp only [gv2];go_simp
   refine Calls.mono (of_any st.pr a6 n6 c6 _ w1 h6 HP12.out.1 HP12.out.2 (some st.v) HOF.out) ?_
   rintro e w2 ⟨hbx,⟨hn,_⟩ | ⟨v,g,hv,rfl,hg,hset⟩⟩
   ·cases hn
   ·injection hv with hv
    subst hv
    refine hK _ _ ⟨rfl,hbx,?_⟩
    exact ⟨g,rfl,Nat.le_trans (kept_0 hG).size hg,hset⟩
  case r1o8=>
   intro w1 hG;intro v7 h7
   obtain ⟨g7,rfl,hl7,h7⟩:=h7
   refine t1o (by rfl) ?_;intro K hK;simp only [gv2];go_simp;refine hK _ _ ⟨rfl,Kept.refl _,?_⟩
   exact ⟨g7,rfl,hl7,h7⟩
  case r1o9=>
   intro w1 hG;intro v8 h8
   obtain ⟨g8,rfl,hl8,h8⟩:=h8
   refine t1o (by rfl) ?_;intro K hK;simp only [gv2];go_simp;refine hK _ _ ⟨rfl,Kept.refl _,?_⟩
   exact ⟨g8,rfl,hl8,h8⟩
  case r1o10=>
   intro w1 hG;intro v8 h8
   obtain ⟨g8,rfl,hl8,h8⟩:=h8
   refine t1o (by rfl) ?_;intro K hK;simp only [gv2];go_simp;refine hK _ _ ⟨rfl,Kept.refl _,?_⟩;show _=_;simp only [gv1];rfl
  case r1o11=>
   intro w1 hG;intro v9 h9
   obtain ⟨g9,rfl,hl9,h9⟩:=h9
   refine t1o (by rfl) ?_;intro K hK;simp only [gv2];go_simp;refine hK _ _ ⟨rfl,Kept.refl _,?_⟩
   exact ⟨g9,rfl,hl9,h9⟩
  case r1o12=>
   intro w1 hG;intro va ha;change _=_ at ha;subst ha;refine t1o (by rfl) ?_;intro K hK;simp only [gv2];go_simp;refine hK _ _ ⟨rfl,Kept.refl _,?_⟩;show _=_;simp only [gv1];rfl
 intro w1 hG;intro v0 h0;change _=_ at h0;subst h0;intro v1 h1;change _=_ at h1;subst h1;intro v2 h2;change _=_ at h2;subst h2;intro v3 h3;change _=_ at h3;subst h3;intro v4 h4;change _=_ at h4;subst h4;intro v5 h5;change _=_ at h5;subst h5;intro v6 h6
 obtain ⟨a6,n6,c6,rfl,h6⟩:=h6
 intro v7 h7
 obtain ⟨g7,rfl,hl7,h7⟩:=h7
 intro v8 h8
 obtain ⟨g8,rfl,hl8,h8⟩:=h8
 intro v9 h9
 obtain ⟨g9,rfl,hl9,h9⟩:=h9
 intro v10 h10;change _=_ at h10;subst h10;intro v11 h11
 obtain ⟨g11,rfl,hl11,h11⟩:=h11
 intro v12 h12;change _=_ at h12;subst h12
 simp only [Given,gv2]
 have hbk:=kept_0 hG
 have HB1:=Lib.hid hbk;have HSET:=Lib.hid h11;have HSL:=Lib.hid hl11;have HGS:=Lib.hid h11.lt;replace c10:=cel hbk c10;replace c11:=cel hbk c11
 obtain ⟨D,E,e1,e2,e3,e4⟩:=HI.out.dat
 obtain ⟨es,clock,hpb,hst5,hE5⟩:=e2.all
 have HPB:=Lib.hid (row_keep hpb hbk)
 have hrow1:=row_keep HROW.out hbk
 have HROW1:=Lib.hid hrow1;have HE1:=Lib.hid e1;have HE3:=Lib.hid e3;have HE4:=Lib.hid e4;have HST5:=Lib.hid hst5;have HE5:=Lib.hid hE5;clear hG hbk h6 h7 h8 h9 h11 hl7 hl8 hl9 hl11 hpb e1 e2 e3 e4 hst5 hE5 HROW HOF HP12 hc6 hrow1
 obtain ⟨wA,hwA⟩:∃ x:World,x=w1:=⟨_,rfl⟩
 subst hwA;go_wp2_with fail
 refine' reg_pair (G:=Kept) (Nw:=[5,10]) (pickF [eqV _,eqV _,eqV _,eqV _,eqV _,(fun v w5=>∃ g,v = .map (some g)∧wA.heap.size≤g∧w5.heap[g]?=some (.map #[] 0)),eqV _,eqV _,eqV _,eqV _,(fun v w5=>∃ g,v = .map (some g)∧wA.heap.size≤g∧w5.heap[g]?=some (.map es clock)),(fun v w5=>∃ a b,v = .agg #[.int .i64 st.c.a0,.int .i64 st.c.a1,.int .i64 st.c.a2,.int .i64 st.c.a3,.int .i64 st.c.page,.int .i64 st.c.a5,.int .i64 st.c.procs,.int .i64 st.c.regions,.int .i64 st.c.pages,.pointer (some ⟨g11,0,none⟩),.map (some a),.map (some b)]∧wA.heap.size≤a∧w5.heap[a]?=some (.map #[] 0)∧wA.heap.size≤b∧w5.heap[b]?=some (.map es clock)∧a ≠ b),(fun v w5=>∃ m a b,v = .pointer (some ⟨m,0,none⟩)∧wA.heap.size≤m∧w5.heap[m]?=some (.cells #[.int .i64 st.c.a0,.int .i64 st.c.a1,.int .i64 st.c.a2,.int .i64 st.c.a3,.int .i64 st.c.page,.int .i64 st.c.a5,.int .i64 st.c.procs,.int .i64 st.c.regions,.int .i64 st.c.pages,.pointer (some ⟨g11,0,none⟩),.map (some a),.map (some b)] 101 (0,0))∧wA.heap.size≤a∧w5.heap[a]?=some (.map #[] 0)∧wA.heap.size≤b∧w5.heap[b]?=some (.map es clock)∧a ≠ b),(fun v w5=>∃ m a b,v = .pointer (some ⟨m,0,none⟩)∧wA.heap.size≤m∧w5.heap[m]?=some (.cells #[.int .i64 st.c.a0,.int .i64 st.c.a1,.int .i64 st.c.a2,.int .i64 st.c.a3,.int .i64 st.c.page,.int .i64 st.c.a5,.int .i64 st.c.procs,.int .i64 st.c.regions,.int .i64 st.c.pages,.pointer (some ⟨g11,0,none⟩),.map (some a),.map (some b)] 101 (0,0))∧wA.heap.size≤a∧w5.heap[a]?=some (.map #[] 0)∧wA.heap.size≤b∧w5.heap[b]?=some (.map es clock)∧a ≠ b)]) [19,20,21,22,23,24,25,26,27,28,29,30,31,5] [[],[0],[1],[2],[],[],[],[6],[7],[8],[9],[3,4,5,10],[11],[12]] [0,1,2,3,4,5,6,7,8,9,10,11,12,13] (by kernel_rfl) Kept.refl Kept.trans (pick_stays ⟨eS _,eS _,eS _,eS _,eS _,(fun _ _ _ p b=>by obtain ⟨g,e,h1,h2⟩:=p;exact ⟨g,e,h1,row_keep h2 b⟩),eS _,eS _,eS _,eS _,(fun _ _ _ p b=>by obtain ⟨g,e,h1,h2⟩:=p;exact ⟨g,e,h1,row_keep h2 b⟩),(fun _ _ _ p k=>by obtain ⟨a,b,e,q1,q2,q3,q4,q5⟩:=p;exact ⟨a,b,e,q1,row_keep q2 k,q3,row_keep q4 k,q5⟩),(fun _ _ _ p k=>by obtain ⟨m,a,b,e,q6,q7,q1,q2,q3,q4,q5⟩:=p;exact ⟨m,a,b,e,q6,row_keep q7 k,q1,row_keep q2 k,q3,row_keep q4 k,q5⟩),(fun _ _ _ p k=>by obtain ⟨m,a,b,e,q6,q7,q1,q2,q3,q4,q5⟩:=p;exact ⟨m,a,b,e,q6,row_keep q7 k,q1,row_keep q2 k,q3,row_keep q4 k,q5⟩),trivial⟩) 50 rfl (by kernel_rfl) (by kernel_rfl) rfl rfl (LtAll.all ⟨(fun _ _ p b e=>by obtain ⟨g,rfl,_,h2⟩:=p;injection e with e;subst e;exact (Array.getElem?_eq_some_iff.1 h2).1),(fun _ _ p b e=>by obtain ⟨g,rfl,_,h2⟩:=p;injection e with e;subst e;exact (Array.getElem?_eq_some_iff.1 h2).1),trivial⟩) ?p2obl ?p2fin
 case p2obl=>
  refine ⟨?p2o0,?p2o1,?p2o2,?p2o3,?p2o4,?p2o5,?p2o6,?p2o7,?p2o8,?p2o9,?p2o10,?p2o11,?p2o12,?p2o13,trivial⟩
  case p2o0=>
   intro w1 hG;intro _
   refine turnP_on (by rfl) (by rfl) ?_
   intro K hK;go_simp;refine hK _ _ ⟨rfl,Kept.refl _,?_⟩;show _=_;simp only [gv1];rfl
  case p2o1=>
   intro w1 hG;intro v0 h0;change _=_ at h0;subst h0;intro _
   refine turnP_on (by rfl) (by rfl) ?_
   intro K hK;simp only [gv2];go_simp;refine hK _ _ ⟨rfl,Kept.refl _,?_⟩;show _=_;simp only [gv1];rfl
  case p2o2=>
   intro w1 hG;intro v1 h1;change _=_ at h1;subst h1;intro _
   refine turnP_on (by rfl) (by rfl) ?_
   intro K hK;simp only [gv2];go_simp;refine hK _ _ ⟨rfl,Kept.refl _,?_⟩;show _=_;simp only [gv1];rfl
  case p2o3=>
   intro w1 hG;intro v2 h2;change _=_ at h2;subst h2;intro _
   refine turnP_on (by rfl) (by rfl) ?_
   intro K hK;simp only [gv2]
   have hbk:=kept_0 hG
   have hr:=row_keep HROW1.out hbk
   have z0:=cell_of_row w1 h.m 0 _ _ _ hr
   have z1:=cell_of_row w1 h.m 1 _ _ _ hr
   have z2:=cell_of_row w1 h.m 2 _ _ _ hr
   have z3:=cell_of_row w1 h.m 3 _ _ _ hr
   have z4:=cell_of_row w1 h.m 4 _ _ _ hr
   have z5:=cell_of_row w1 h.m 5 _ _ _ hr
   have z6:=cell_of_row w1 h.m 6 _ _ _ hr
   have z7:=cell_of_row w1 h.m 7 _ _ _ hr
   have z8:=cell_of_row w1 h.m 8 _ _ _ hr
   clear hr;go_simp;refine hK _ _ ⟨rfl,Kept.refl _,?_⟩;show _=_;simp only [gv1];rfl
  case p2o4=>
   intro w1 hG;intro _
   refine turnP_on (by rfl) (by rfl) ?_
   intro K hK;go_simp;refine hK _ _ ⟨rfl,Kept.refl _,?_⟩;show _=_;simp only [gv1];rfl
  case p2o5=>
   intro w1 hG;intro _
   refine turnP_new (by rfl) ?_
   intro K hK
   have hbk:=kept_0 hG
   go_simp
   refine hK _ _ ⟨rfl,(Below.refl _ _).alloc (Nat.le_refl _) _,⟨_,rfl,hbk.size,heap_alloc_new _ _⟩,?_⟩
   intro b hb
   injection hb with hb
   omega
  case p2o6=>
   intro w1 hG;intro _
   refine turnP_on (by rfl) (by rfl) ?_
   intro K hK;go_simp;refine hK _ _ ⟨rfl,Kept.refl _,?_⟩;show _=_;simp only [gv1];rfl
  case p2o7=>
   intro w1 hG;intro v6 h6;change _=_ at h6;subst h6;intro _
   refine turnP_on (by rfl) (by rfl) ?_
   intro K hK;simp only [gv2];go_simp;refine hK _ _ ⟨rfl,Kept.refl _,?_⟩;show _=_;simp only [gv1];rfl
  case p2o8=>
   intro w1 hG;intro v7 h7;change _=_ at h7;subst h7;intro _
   refine turnP_on (by rfl) (by rfl) ?_
   intro K hK;simp only [gv2];go_simp;refine hK _ _ ⟨rfl,Kept.refl _,?_⟩;show _=_;simp only [gv1];rfl
  case p2o9=>
   intro w1 hG;intro v8 h8;change _=_ at h8;subst h8;intro _
   refine turnP_on (by rfl) (by rfl) ?_
   intro K hK;simp only [gv2]
   have hbk:=kept_0 hG
   have hc:=cel hbk c11
   go_simp;refine hK _ _ ⟨rfl,Kept.refl _,?_⟩;show _=_;simp only [gv1];rfl
  case p2o10=>
   intro w1 hG;intro v9 h9;change _=_ at h9;subst h9;intro _
   refine turnP_new (by rfl) ?_
   intro K hK;simp only [gv2]
   have hbk:=kept_0 hG
   go_simp
   refine Calls.mono (mapsClone_any h.pb es clock w1 (row_keep HPB.out hbk)) ?_
   rintro e w2 ⟨rfl,rfl⟩
   refine hK _ _ ⟨rfl,(Below.refl _ _).alloc (Nat.le_refl _) _,⟨_,rfl,hbk.size,heap_alloc_new _ _⟩,?_⟩
   intro b hb
   injection hb with hb
   omega
  case p2o11=>
   intro w1 hG;intro v3 h3;change _=_ at h3;subst h3;intro v4 h4;change _=_ at h4;subst h4;intro v5 h5
   obtain ⟨g5,rfl,hl5,h5⟩:=h5
   intro v10 h10
   obtain ⟨g10,rfl,hl10,h10⟩:=h10
   intro hAp
   have hAp510:=hAp 5 10 (by decide) (by decide) (by decide) (by rfl) (by rfl)
   simp only [List.getD_cons_zero,List.getD_cons_succ,List.setIfInBounds_toArray,List.set_cons_zero,List.set_cons_succ,Array.getD_eq_getD_getElem?,List.getElem?_toArray,List.getElem?_cons_zero,List.getElem?_cons_succ,Option.getD_some] at hAp510
   refine turnP_on (by rfl) (by rfl) ?_
   intro K hK;simp only [gv2];go_simp;refine hK _ _ ⟨rfl,Kept.refl _,?_⟩
   exact ⟨g5,g10,rfl,hl5,h5,hl10,h10,fun e=>hAp510 g5 rfl (by rw [e];rfl)⟩
  case p2o12=>
   intro w1 hG;intro v11 h11
   obtain ⟨a11,b11,rfl,q1,q2,q3,q4,q5⟩:=h11
   intro _
   refine turnP_on (by rfl) (by rfl) ?_
   intro K hK;simp only [gv2]
   have hbk:=kept_0 hG
   go_simp
   refine hK _ _ ⟨rfl,(Below.refl _ _).alloc (Nat.le_refl _) _,?_⟩
   exact ⟨_,a11,b11,rfl,hbk.size,heap_alloc_new _ _,q1,row_keep q2 ((Below.refl _ _).alloc (Nat.le_refl _) _),q3,row_keep q4 ((Below.refl _ _).alloc (Nat.le_refl _) _),q5⟩
  case p2o13=>
   intro w1 hG;intro v12 h12
   obtain ⟨m12,a12,b12,rfl,q6,q7,q1,q2,q3,q4,q5⟩:=h12
   intro _
   refine turnP_on (by rfl) (by rfl) ?_
   intro K hK;simp only [gv2];go_simp;refine hK _ _ ⟨rfl,Kept.refl _,?_⟩
   exact ⟨m12,a12,b12,rfl,q6,q7,q1,q2,q3,q4,q5⟩
 intro w1 hG;intro v0 h0;change _=_ at h0;subst h0;intro v1 h1;change _=_ at h1;subst h1;intro v2 h2;change _=_ at h2;subst h2;intro v3 h3;change _=_ at h3;subst h3;intro v4 h4;change _=_ at h4;subst h4;intro v5 h5
 obtain ⟨g5,rfl,hl5,h5⟩:=h5
 intro v6 h6;change _=_ at h6;subst h6;intro v7 h7;change _=_ at h7;subst h7;intro v8 h8;change _=_ at h8;subst h8;intro v9 h9;change _=_ at h9;subst h9;intro v10 h10
 obtain ⟨g10,rfl,hl10,h10⟩:=h10
 intro v11 h11
 obtain ⟨a11,b11,rfl,q1,q2,q3,q4,q5⟩:=h11
 intro v12 h12
 obtain ⟨m12,a12,b12,rfl,q6,q7,q1,q2,q3,q4,q5⟩:=h12
 intro v13 h13
 obtain ⟨m13,a13,b13,rfl,q6,q7,q1,q2,q3,q4,q5⟩:=h13
 intro hAp
 have hAp510:=hAp 5 10 (by decide) (by decide) (by decide) (by rfl) (by rfl)
 simp only [List.getD_cons_zero,List.getD_cons_succ,List.setIfInBounds_toArray,List.set_cons_zero,List.set_cons_succ,Array.getD_eq_getD_getElem?,List.getElem?_toArray,List.getElem?_cons_zero,List.getElem?_cons_succ,Option.getD_some] at hAp510
 clear hAp
 simp only [Given,gv2]
 have hbk:=kept_0 hG
 have HB2:=Lib.hid (Below.call HB1.out hbk)
 have hbs:=hbk.size
 have HBS:=Lib.hid hbk.size;replace c10:=cel hbk c10
 obtain ⟨lbx,hlbx⟩:∃ x,x=a13:=⟨_,rfl⟩
 obtain ⟨pbx,hpbx⟩:∃ x,x=b13:=⟨_,rfl⟩
 subst hlbx hpbx
 have HSET1:=Lib.hid (HSET.out.below hbk)
 have HQ1:=Lib.hid q1;have HQ2:=Lib.hid q2;have HQ3:=Lib.hid q3;have HQ4:=Lib.hid q4;have HQ5:=Lib.hid q5;have HQ6:=Lib.hid q6;have HQ7:=Lib.hid q7
 have HM10:Hid (w1.cell? ⟨m13,10,none⟩=some (.map (some lbx))):=cell_of_row w1 m13 10 _ _ _ q7
 have he1:=HE1.out.at (HB2.out.block _ HE1.out.lt)
 obtain ⟨w0,hrun,hit,hg0,hs0⟩:=mg_range he1
 have hrlb:h.lb < w.heap.size:=HE1.out.lt
 have HMM:Hid (MapG MR w1 lbx []):=⟨#[],0,q2,MapKept.stamped_empty 0,by simp,fun _ h=>by cases h⟩
 have HRNE:Hid (lbx < w1.heap.size):=(Array.getElem?_eq_some_iff.1 q2).1
 obtain ⟨No2,hNo2⟩:∃ X:Nat→Prop,X=fun k=>(No k∨k=g11∨k=lbx∨k=pbx)∨k=w1.heap.size:=⟨_,rfl⟩
 have HNO2:=Lib.hid hNo2
 have hgt:=HGS.out
 have HN2L:Hid (No2 lbx):=by show No2 lbx;rw [hNo2];exact .inl (.inr (.inr (.inl rfl)))
 have HN2R:Hid (No2 w1.heap.size):=by show No2 w1.heap.size;rw [hNo2];exact .inr rfl
 have HN2T:Hid (∀ k,No2 k→k≤w1.heap.size):=fun k hk=>by
  rw [hNo2] at hk
  have h1:=HRNE.out
  have h2:=(Array.getElem?_eq_some_iff.1 HQ4.out).1
  have h3:=HB2.out.size
  rcases hk with (hk | rfl | rfl | rfl) | rfl
  ·have:=HI.out.lt k hk;omega
  ·omega
  ·omega
  ·omega
  ·omega
 have ST:Hid (TwR st No2 w1 h.lb lbx D w1.heap.size w0 D [] []):=⟨hit,by simp,HMM.out.at (hg0.block _ HRNE.out (by simp)),fun p hp=>(by cases hp),fun p hp=>(by cases hp),⟨hg0.os,hg0.tape,hg0.output,hg0.size,fun k hk _=>hg0.block k hk (by simp)⟩⟩
 have HW0S:Hid (w0.heap.size=w1.heap.size+1):=hs0
 clear hG hbk hbs q1 q2 q3 q4 q5 q6 q7 he1 hit hg0 hs0 hgt h5 h10 hl5 hl10 HMM hNo2 HPB HROW1;go_wp2_with fail
 go_loopw [6] (fun _ wr=>∃ L X D2,Hid (TwR st No2 w1 h.lb lbx D w1.heap.size wr L X D2)) (fun _ wr=>wr.rangeLeft h.lb w1.heap.size)
 case atStart=>exact ⟨_,_,_,ST⟩
 case round=>
  clear ST hrun c10 c11
  obtain ⟨L,X,D2,HR⟩:=hrel
  obtain ⟨wS,hwS⟩:∃ x:World,x=w1:=⟨_,rfl⟩
  subst hwS
  rcases ig_next HR.out.it 0 with ⟨hl,hnx⟩ | ⟨q,L',wn,hpL,hpD,hnx,hit1,hg1,hs1,hen⟩
  ·subst hl
   have hall:D.Perm X:=by simpa using HR.out.all
   go_wp2_with fail
   go_ret
   have hT:=HR.out.bel
   have hq4:=(Array.getElem?_eq_some_iff.1 HQ4.out).1
   have hq7:=(Array.getElem?_eq_some_iff.1 HQ7.out).1
   have hbs:=HBS.out
   have hgs:=HGS.out
   have hb1:=HB1.out.size
   have hw:=HQ1.out
   have hw3:=HQ3.out
   have hw6:=HQ6.out
   have hne:=HQ5.out
   have hsl:=HSL.out
   have hmne:m13 ≠ lbx∧m13 ≠ pbx:=by
    refine ⟨fun e=>?_,fun e=>?_⟩
    ·have h1:=HQ7.out;rw [e,HQ2.out] at h1;cases h1
    ·have h1:=HQ7.out;rw [e,HQ4.out] at h1;cases h1
   have hBW:Below w.heap.size w wr:=HB2.out.trans (hT.below (fun k hk e=>by omega) HB2.out.size)
   have hN2:∀ k,(No k∨McH.own ⟨m13,g11,lbx,pbx⟩ k)→No2 k:=fun k hk=>by
    rw [HNO2.out]
    exact .inl hk
   have hNn:∀ k,k < w.heap.size→(No k∨McH.own ⟨m13,g11,lbx,pbx⟩ k)→No k:=fun k hk hn=>by
    rcases hn with hn | hn | hn | hn
    ·exact hn
    ·replace hn:k=g11:=hn;omega
    ·replace hn:k=lbx:=hn;omega
    ·replace hn:k=pbx:=hn;omega
   refine ⟨⟨m13,g11,lbx,pbx⟩,rfl,⟨?_,?_,⟨D2,E,HR.out.mp,⟨es,clock,?_,HST5.out,HE5.out⟩,⟨fun p hp=>?_,fun s hs=>?_⟩,⟨fun p hp=>?_,HE4.out.has⟩⟩,HI.out.ok,⟨.inr (.inl rfl),.inr (.inr (.inl rfl)),.inr (.inr (.inr rfl)),?_⟩,⟨?_,?_,?_⟩,?_⟩,?_,?_,hBW⟩
   ·show wr.heap[m13]?=_
    exact row_tn HQ7.out hT hmne.1
   ·show SetAt wr g11 _ _
    have h1:=HSET1.out
    rw [HPR.out] at h1
    exact row_tn h1 hT (show ¬ g11=lbx by omega)
   ·show wr.heap[pbx]?=_
    exact row_tn HQ4.out hT (fun e=>hne e.symm)
   ·obtain ⟨h1,v,hv⟩:=HR.out.own p hp
    exact ⟨(HE3.out.all _ (hall.mem_iff.2 hv)).1,h1.reno (fun k _ hk=>hN2 k hk)⟩
   ·refine HE3.out.gone s (fun q hq e=>?_)
    obtain ⟨v,hv⟩:=HR.out.cov q (hall.mem_iff.1 hq)
    exact hs _ hv e
   ·obtain ⟨b,hb,hv⟩:=HE4.out.all p hp
    exact ⟨b,hb,(hv.reno hNn).tn (Tn.of (Q:=fun _=>False) hBW) (fun _ h=>h.elim)⟩
   ·rintro (hk | hk | hk | hk)
    ·have:=HI.out.lt _ hk;replace this:m13 < w.heap.size:=this;omega
    ·replace hk:m13=g11:=hk;omega
    ·exact hmne.1 hk
    ·exact hmne.2 hk
   ·show g11 ≠ lbx;omega
   ·show g11 ≠ pbx;omega
   ·exact hne
   ·intro k hk
    have h1:=hT.size
    have h2:=(Array.getElem?_eq_some_iff.1 HQ2.out).1
    rcases hk with hk | hk | hk | hk
    ·have:=HI.out.lt _ hk;omega
    ·replace hk:k=g11:=hk;omega
    ·replace hk:k=lbx:=hk;omega
    ·replace hk:k=pbx:=hk;omega
   ·rintro k (hk | hk | hk)
    ·replace hk:k=g11:=hk;omega
    ·replace hk:k=lbx:=hk;omega
    ·replace hk:k=pbx:=hk;omega
   ·show w.heap.size≤m13;omega
  ·obtain ⟨s,v⟩:=q
   obtain ⟨hhas,ra,rn,rc,e0,hrr,hrno⟩:=HE3.out.all _ hpD
   simp only at e0
   subst e0
   replace hrr:RdS Rg.cells 3 w ra rn rc (st.rs s):=hrr
   replace hnx:(Instr.next (.pointer (some ⟨wS.heap.size,0,none⟩)) false 0).run Tryz.prog wr = .ok (.tuple #[.bool true,.int .i64 s,.slice ra rn rc]) wn:=hnx
   replace hen:(Instr.entry (.pointer (some ⟨wS.heap.size,0,none⟩))).run Tryz.prog wn = .ok (.tuple #[.int .i64 s,.slice ra rn rc]) wn:=hen
   have hq1:=HQ1.out
   have hbs:=HBS.out
   have hb1:=HB1.out.size
   have hrl:=HRNE.out
   have htr:Tn (fun k=>k=wS.heap.size) wr wn:=(Tn.refl _ _).put hg1 (.inl rfl)
   have hT:=HR.out.bel
   have hTn:Tn (fun k=>k=lbx) wS wn:=⟨htr.os.trans hT.os,htr.tape.trans hT.tape,htr.output.trans hT.output,Nat.le_trans hT.size htr.size,fun k hk hn=>(htr.block k (Nat.lt_of_lt_of_le hk hT.size) (by omega)).trans (hT.block k hk hn)⟩
   have hBn:Below w.heap.size w wn:=HB2.out.trans (hTn.below (fun k hk e=>by omega) HB2.out.size)
   have hq7:=HQ7.out
   have hmne:m13 ≠ lbx:=fun e=>by have h1:=HQ7.out;rw [e,HQ2.out] at h1;cases h1
   have hm10:wn.cell? ⟨m13,10,none⟩=some (.map (some lbx)):=by
    rw [← HM10.out]
    exact World.cell?_of_block (a:=⟨m13,10,none⟩) (hTn.block _ (Array.getElem?_eq_some_iff.1 hq7).1 hmne)
   have HLN:Hid (L'.length < L.length):=by have:=hpL.length_eq;simp at this;show _ < _;omega
   have HMS:=Lib.hid HR.out.it.left
   have HOKS:Hid ((Lit.int .i64 s).wf=true):=HR.out.it.map.ok _ hpD
   have HPP:Hid (D.Perm (L' ++ (X ++ [(s,Value.slice ra rn rc)]))):=by
    refine HR.out.all.trans ((hpL.append_right X).trans ?_)
    rw [← List.append_assoc]
    exact (List.perm_append_singleton _ _).symm
   have HRR:Hid (RdS Rg.cells 3 wn ra rn rc (st.rs s)):=hrr.below hBn
   have HRN:Hid (rn≤1000000):=by have h1:=hrr.len;have h2:=HI.out.few s;show _≤_;omega
   have HD2:Hid (MapG MR wn lbx D2):=HR.out.mp.grown hg1 (by intro e;injection e with e;omega)
   have HTN:=Lib.hid hTn;have HIT:=Lib.hid hit1
   have HOW:Hid (∀ p ∈ D2,RgV wn No2 p.2 (st.rs p.1)∧∃ v,(p.1,v) ∈ X):=fun p hp=>⟨(HR.out.own p hp).1.tn htr (fun k e=>by rw [e];exact HN2R.out),(HR.out.own p hp).2⟩
   have HCV:=Lib.hid HR.out.cov
   have HWN:Hid (wS.heap.size < wn.heap.size):=hit1.lt
   have HNL:=HN2L
   have htl0:Tn (fun k=>k=lbx) wn wn.drew:=⟨rfl,rfl,rfl,Nat.le_refl _,fun _ _ _=>rfl⟩
   have hbl0:Below wn.heap.size wn wn.drew:=⟨rfl,rfl,rfl,Nat.le_refl _,fun _ _=>rfl⟩
   clear hpL hpD hit1 hg1 hs1 hhas hrr hrno hq1 hbs hb1 hrl htr hT hTn hBn hq7 hmne HR;go_wp2_with fail
   refine' reg_order [eqV _,eqV _,eqV _,eqV _,eqV _,eqV _,(fun v w5=>RgV w5 No2 v (st.rs s)),(fun _ w5=>∃ v,MapG MR w5 lbx (kput D2 s v)∧RgV w5 No2 v (st.rs s))] [(7,fun w5 w6=>World.grownBy w5 w6 (some lbx))] [(3,fun w5=>Below wn.heap.size wn w5),(6,fun w5=>Below wn.heap.size wn w5),(7,fun w5=>Below wn.heap.size wn w5),(8,fun w5=>Tn (fun k=>k=lbx) wn w5)] [42,43,44,45,46,47,48,57] [[],[0],[1],[2],[],[],[5],[3,4,6]] [0,1,2,3,4,5,6,7] 8 (by kernel_rfl) ⟨eS _,eS _,eS _,eS _,eS _,eS _,fun _ _ _ p b=>p.below b,fun _ _ _ p b=>by obtain ⟨v,p1,p2⟩:=p;exact ⟨v,p1.at (b.block _ p1.lt),p2.below b⟩,trivial⟩ ⟨⟨.inl (eS _),.inl (eS _),.inl (eS _),.inl (eS _),.inl (eS _),.inl (eS _),.inl (fun _ _ _ p g=>RgV.grown p g HNL.out),.inr (.inr rfl),trivial⟩,trivial⟩ ⟨fun _ _ p b=>Below.call p b,fun _ _ p b=>Below.call p b,fun _ _ p b=>Below.call p b,fun _ _ p b=>Tn.call p b,trivial⟩ ⟨⟨.inr (.inl (by kernel_rfl)),.inr (.inl (by kernel_rfl)),.inr (.inr rfl),.inl (fun _ _ p g=>Tn.put p g (.inl rfl)),trivial⟩,trivial⟩ ⟨hbl0,hbl0,hbl0,htl0,trivial⟩ 50 rfl (by kernel_rfl) (by kernel_rfl) rfl rfl 8 rfl ?q3obl ?q3fin
   case q3obl=>
    refine ⟨?q3o0,?q3o1,?q3o2,?q3o3,?q3o4,?q3o5,?q3o6,?q3o7,trivial⟩
    case q3o0 | q3o4 | q3o5=>
     intro w1 hI;refine t2o (by rfl) ?_;intro K hK;go_simp;refine hK _ _ ⟨rfl,Kept.refl _,?_⟩;show _=_;simp only [gv1];rfl
    case q3o1 | q3o2=>
     intro w1 hI;intro va ha;change _=_ at ha;subst va;refine t2o (by rfl) ?_;intro K hK;simp only [gv2];go_simp;refine hK _ _ ⟨rfl,Kept.refl _,?_⟩;show _=_;simp only [gv1];rfl
    case q3o3=>
     intro w1 hI
     replace hI:(fun w5=>Below wn.heap.size wn w5) w1:=hI
     intro v2 h2;change _=_ at h2;subst v2;refine t2o (by rfl) ?_;intro K hK;simp only [gv2]
     have hcc:=cel hI hm10
     go_simp;refine hK _ _ ⟨rfl,Kept.refl _,?_⟩;show _=_;simp only [gv1];rfl
    case q3o6=>
     intro w1 hI
     replace hI:(fun w5=>Below wn.heap.size wn w5) w1:=hI
     intro v5 h5;change _=_ at h5;subst v5;refine t2o (by rfl) ?_;intro K hK;simp only [gv2];go_simp
     refine (cloneR_any ra rn rc (st.rs s) w1 (HRR.out.below hI) HRN.out).mono ?_
     rintro e w2 ⟨vv,rfl,ho2,hb2⟩
     refine hK _ _ ⟨rfl,hb2,?_⟩
     show RgV _ _ _ _
     simp only [gv1]
     exact ho2.rgV (fun k hk=>by have h1:=HN2T.out k hk;have h2:=HWN.out;have h3:=hI.size;omega)
    case q3o7=>
     intro w1 hI
     replace hI:(fun w5=>Below wn.heap.size wn w5) w1:=hI
     intro v3 h3;change _=_ at h3;subst v3;intro v4 h4;change _=_ at h4;subst v4;intro v6 h6
     replace h6:RgV _ No2 v6 (st.rs s):=h6
     refine t2o (by rfl) ?_;intro K hK;simp only [gv2]
     obtain ⟨w9,hrun9,hM9,hg9,_⟩:=mg_put (HD2.out.at (hI.block _ HD2.out.lt)) s v6 HOKS.out
     replace hrun9:(Instr.mapUpdate 98 (.map (some lbx)) (.int .i64 s) v6).run Tryz.prog w1 = .ok () w9:=hrun9
     go_simp
     refine hK _ _ ⟨rfl,hg9,?_⟩
     exact ⟨v6,hM9,RgV.grown h6 hg9 HNL.out⟩
   intro w4 hI
   replace hI:(fun w5=>Tn (fun k=>k=lbx) wn w5) w4:=hI
   intro v0 h0;change _=_ at h0;subst v0;intro v1 h1;change _=_ at h1;subst v1;intro v2 h2;change _=_ at h2;subst v2;intro v3 h3;change _=_ at h3;subst v3;intro v4 h4;change _=_ at h4;subst v4;intro v5 h5;change _=_ at h5;subst v5;intro v6 h6
   replace h6:RgV _ No2 v6 (st.rs s):=h6
   intro v7 h7
   simp only [Given,gv2]
   obtain ⟨vv,hM4,hv4⟩:=h7
   have hri:w.heap.size≤wS.heap.size:=HB2.out.size
   have hlb:h.lb < w.heap.size:=HE1.out.lt
   have hq1:=HQ1.out
   have hb1:=HB1.out.size
   have hIT:IterG MR w4 h.lb wS.heap.size D L':=HIT.out.tn hI (show ¬ h.lb=lbx by omega) (show ¬ wS.heap.size=lbx by have:=HRNE.out;omega)
   have HR2:Hid (TwR st No2 wS h.lb lbx D wS.heap.size w4 L' (X ++ [(s,.slice ra rn rc)]) (kput D2 s vv)):=by
    refine ⟨hIT,HPP.out,hM4,fun p hp=>?_,fun p hp=>?_,HTN.out.trans hI⟩
    ·rcases kput_mem.1 hp with rfl | ⟨hp,_⟩
     ·exact ⟨hv4,.slice ra rn rc,by simp⟩
     ·obtain ⟨h1,v,hv⟩:=HOW.out p hp
      exact ⟨h1.tn hI (fun k e=>by rw [e];exact HN2L.out),v,List.mem_append_left _ hv⟩
    ·by_cases e:p.1=s
     ·exact ⟨vv,kput_mem.2 (.inl (by rw [e]))⟩
     ·rcases List.mem_append.1 hp with hp | hp
      ·obtain ⟨v,hv⟩:=HCV.out p hp
       exact ⟨v,kput_mem.2 (.inr ⟨hv,e⟩)⟩
      ·rw [List.mem_singleton] at hp
       rw [hp] at e
       exact absurd rfl e
   clear hM4 hv4 hri hlb hq1 hb1 hIT;go_wp2_with fail
   go_roundw
   case rel=>exact ⟨_,_,_,HR2⟩
   case measure=>rw [HR2.out.it.left,HMS.out];exact HLN.out
end
def fU (M:List (Int × List Int)) (x:Int × List Int):Bool:=!decide (kget M x.1=some x.2)
def gU (L:List (Int × List Int)) (x:Int × List Int):Bool:=(kget L x.1).isNone
def unlM (L M:List (Int × List Int)):Nat:=(L.filter (fU M)).length+(M.filter (gU L)).length
section
variable {No:Nat→Prop} {h h2:McH} {st st2:Mc} {w:World}
end
section
variable {No:Nat→Prop} {h h2:McH} {st st2:Mc} {w:World}
end
def oneE:Bool→Bool→Nat→Nat→Nat→Nat
 | true,true,x,_,_=>x
 | true,false,_,y,_=>y
 | false,true,_,_,z=>z
 | false,false,_,_,_=>0
def oneD (st st2:Mc) (p:Int):Nat:=
 oneE (st.has p) (st2.has p) ((if st.rs p=st2.rs p then 0 else 1)+unlM (st.ms p) (st2.ms p)) (1+(st.rs p).length+(st.ms p).length) (1+(st2.rs p).length+(st2.ms p).length)
def dsum (st st2:Mc):Nat→Nat
 | 0=>0
 | k+1=>dsum st st2 k+oneD st st2 (k:Int)
section
variable {No:Nat→Prop} {h h2:McH} {st st2:Mc} {w:World}
end
def dU (M:List (Int × List Int)) (x:Int × List Int):Bool:=(kget M x.1).isSome && !decide (kget M x.1=some x.2)
theorem split_f (M:List (Int × List Int)):∀ L:List (Int × List Int),(L.filter (fU M)).length=(L.filter (gU M)).length+(L.filter (dU M)).length
 | []=>rfl
 | x :: r=>by
  have ih:=split_f M r
  rw [List.filter_cons,List.filter_cons,List.filter_cons]
  unfold fU gU dU at ih ⊢
  cases hk:kget M x.1 with
  | none=>simp;omega
  | some b=>
   by_cases e:b=x.2
   ·simp [e];omega
   ·simp [e];omega
theorem keys_nodup {L:List (Int × List Int)} (h:SrtP L) (f:Int × List Int→Bool):((L.filter f).map Prod.fst).Nodup:=by
 have h1:SrtP (L.filter f):=h.sublist List.filter_sublist
 exact h1.nodup
theorem d_symm {L M:List (Int × List Int)} (hL:SrtP L) (hM:SrtP M):(L.filter (dU M)).length=(M.filter (dU L)).length:=by
 have key:∀ {L M:List (Int × List Int)},SrtP L→SrtP M→∀ k,k ∈ (L.filter (dU M)).map Prod.fst→k ∈ (M.filter (dU L)).map Prod.fst:=fun {L M} hL hM k hk=>by
  obtain ⟨x,hx,rfl⟩:=List.mem_map.1 hk
  obtain ⟨h1,h2⟩:=List.mem_filter.1 hx
  unfold dU at h2
  cases hb:kget M x.1 with
  | none=>rw [hb] at h2;cases h2
  | some b=>
   rw [hb] at h2
   simp at h2
   refine List.mem_map.2 ⟨(x.1,b),List.mem_filter.2 ⟨kget_mem hb,?_⟩,rfl⟩
   unfold dU
   have h3:kget L x.1=some x.2:=(kget_iff hL).2 h1
   simp only
   rw [h3]
   simp
   exact fun e=>h2 e.symm
 have:=((List.perm_ext_iff_of_nodup (keys_nodup hL (dU M)) (keys_nodup hM (dU L))).2 (fun k=>⟨key hL hM k,key hM hL k⟩)).length_eq
 simpa using this
theorem unlM_symm {L M:List (Int × List Int)} (hL:SrtP L) (hM:SrtP M):unlM L M=unlM M L:=by
 unfold unlM
 rw [split_f M L,split_f L M,d_symm hL hM]
 omega
section
variable {st st2:Mc}
theorem oneD_symm (h:McOk st) (h2:McOk st2) (p:Int):oneD st st2 p=oneD st2 st p:=by
 unfold oneD
 cases st.has p <;> cases st2.has p <;> simp only [oneE]
 rw [unlM_symm (h.srt p) (h2.srt p)]
 by_cases e:st.rs p=st2.rs p
 ·rw [if_pos e,if_pos e.symm]
 ·rw [if_neg e,if_neg (fun e2=>e e2.symm)]
theorem dsum_symm (h:McOk st) (h2:McOk st2):∀ k,dsum st st2 k=dsum st2 st k
 | 0=>rfl
 | k+1=>by rw [dsum,dsum,dsum_symm h h2 k,oneD_symm h h2]
def wOne (st:Mc) (k:Nat):Int:=if st.has (k:Int)=true then oneW st (k:Int) else 0
def wsum (st:Mc):Nat→Int
 | 0=>0
 | k+1=>wsum st k+wOne st k
theorem wsum_pids (h:McOk st):∀ k,k≤st.pr→((pidsK st.v k).map (oneW st)).sum=wsum st k
 | 0,_=>rfl
 | k+1,hk=>by
  have ih:=wsum_pids h k (by omega)
  have hh:st.has (k:Int)=st.v.getLsbD k:=by
   have:=h.prI
   unfold Mc.has hasB
   have e:decide ((0:Int)≤(k:Int)∧(k:Int) < st.c.procs)=true:=decide_eq_true ⟨by omega,by omega⟩
   simp
   omega
  rw [pidsK,wsum,wOne,hh]
  by_cases hb:st.v.getLsbD k=true
  ·rw [if_pos hb,if_pos hb,List.map_append,sum_append,ih]
   simp
  ·rw [if_neg hb,if_neg hb,ih]
   omega
theorem wsum_more (h:McOk st):∀ j,wsum st (st.pr+j)=wsum st st.pr
 | 0=>rfl
 | j+1=>by
  rw [← Nat.add_assoc,wsum,wsum_more h j,wOne,if_neg]
  ·omega
  ·unfold Mc.has hasB
   have:=h.prI
   simp
   omega
theorem weight_wsum (h:McOk st):weightM st=wsum st 64:=by
 have h1:=h.prL
 have h2:=wsum_more h (64 - st.pr)
 rw [show st.pr+(64 - st.pr)=64 by omega] at h2
 rw [h2,← wsum_pids h st.pr (Nat.le_refl _)];rfl
end
section
variable {ops:Array Oper} {rest:List Oper} {o:Oper} {act:Act} {E:Exit→Act→World→Prop}
end
end Go.Proofs.YtoepnbfifjgpfaaGreat
