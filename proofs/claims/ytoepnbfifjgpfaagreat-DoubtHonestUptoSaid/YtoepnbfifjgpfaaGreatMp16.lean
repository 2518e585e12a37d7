/- The doubt's New. known, of chapter 25. known, of chapter 25: the walk. Looks, of chapter 25: both tell the same machine. The acts and the luck as parts of one memory. The document's machine in the one memory: an operation; the luck's row. The law's start: all in one memory. The law's loop: what holds ahead of each act. The law's own closure: it looks at the saved machine. -/
import Derived.Test.YtoepnbfifjgpfaaGreatMu0
import Derived.Test.YtoepnbfifjgpfaaGreatMp14
import Derived.Test.YtoepnbfifjgpfaaGreatMp10
import Derived.Test.YtoepnbfifjgpfaaGreatMu20
import Derived.WalkKit
import Derived.ProofKit
import Derived.BigQuiet
import Derived.Deep.QuietTactic
import Derived.Lib.Hide
import Derived.RegionTactic
import Derived.Test.YtoepnbfifjgpfaaGreatMp15
import Derived.Test.YtoepnbfifjgpfaaGreatMu16
import Derived.Test.YtoepnbfifjgpfaaGreatMp12
import Derived.Test.YtoepnbfifjgpfaaGreatMp5
import Derived.Test.YtoepnbfifjgpfaaGreatMp1
namespace Go.Proofs.YtoepnbfifjgpfaaGreat
set_option maxRecDepth 100000
open Go.RowKit
set_option linter.unusedSimpArgs false
/-- What New made. -/
structure DnS (w w':World) (b:Nat) (c:Cf) (h1 h2:McH):Prop where
 m1:McIn w' (fun k=>h1.own k∨h2.own k∨k=b) h1 (mc0 c)
 m2:McIn w' (fun k=>h1.own k∨h2.own k∨k=b) h2 (mc0 c)
 row:DuAt w' b c (some h1.m) (some h2.m) 1 none false
 d12:∀ k,h1.own k→¬ h2.own k
 d1:¬ h1.own b
 d2:¬ h2.own b
 ge:∀ k,h1.own k∨h2.own k∨k=b→w.heap.size≤k
 bel:Below w.heap.size w w'
section
variable {w:World} {c:Cf}
theorem McIn.up {w w':World} {No No':Nat→Prop} {h:McH} {st:Mc} (i:McIn w No h st) (b:Below w.heap.size w w') (h1:∀ k,No k→No' k) (h2:∀ k,No' k→No k∨w.heap.size≤k) (h3:∀ k,No' k→k < w'.heap.size):McIn w' No' h st:=
 i.more (Tn.of (Q:=fun _=>False) b) (fun _ h=>h.elim) h1 h2 h3
theorem dnew_no (h:¬ CfOk c):Calls Tryz.prog 6 #[c.val] w fun e w'=>e = .returned (.tuple #[.pointer none,.int .i64 1])∧Below w.heap.size w w':=by
 have hrow:=heap_alloc_new w (.cells #[.int .i64 c.a0,.int .i64 c.a1,.int .i64 c.a2,.int .i64 c.a3,.int .i64 c.page,.int .i64 c.a5,.int .i64 c.procs,.int .i64 c.regions,.int .i64 c.pages] 23)
 have hb0:=below_a w (.cells #[.int .i64 c.a0,.int .i64 c.a1,.int .i64 c.a2,.int .i64 c.a3,.int .i64 c.page,.int .i64 c.a5,.int .i64 c.procs,.int .i64 c.regions,.int .i64 c.pages] 23)
 obtain ⟨y0,y1,y2,y3,y4,y5,y6,y7,y8⟩:=cells9 hrow
 obtain ⟨w1,hw1⟩:∃ y,w.alloc (.cells #[.int .i64 c.a0,.int .i64 c.a1,.int .i64 c.a2,.int .i64 c.a3,.int .i64 c.page,.int .i64 c.a5,.int .i64 c.procs,.int .i64 c.regions,.int .i64 c.pages] 23)=y:=⟨_,rfl⟩
 rw [hw1] at hrow hb0 y0 y1 y2 y3 y4 y5 y6 y7 y8;have HW1:=Lib.hid hw1;have HB:=Lib.hid hb0
 have HC:=Lib.hid (newmc_no (w:=w1) (c:=c) h)
 clear hrow hb0 hw1 h
 unfold Cf.val at HC ⊢
 go_enter Tryz.func6,Tryz.ntmps6
 go_wp2_with (first | (rw [HW1.out]) | (go_at_call 23;refine HC.out.mono ?_;rintro e w2 ⟨rfl,hb2⟩))
 go_ret2
 exact ⟨rfl,HB.out.trans (hb2.mono HB.out.size)⟩
theorem dnew_yes (h:CfOk c):Calls Tryz.prog 6 #[c.val] w fun e w'=>∃ b,∃ h1 h2:McH,e = .returned (.tuple #[.pointer (some ⟨b,0,none⟩),.int .i64 0])∧DnS w w' b c h1 h2:=by
 have hrow:=heap_alloc_new w (.cells #[.int .i64 c.a0,.int .i64 c.a1,.int .i64 c.a2,.int .i64 c.a3,.int .i64 c.page,.int .i64 c.a5,.int .i64 c.procs,.int .i64 c.regions,.int .i64 c.pages] 23)
 have hb0:=below_a w (.cells #[.int .i64 c.a0,.int .i64 c.a1,.int .i64 c.a2,.int .i64 c.a3,.int .i64 c.page,.int .i64 c.a5,.int .i64 c.procs,.int .i64 c.regions,.int .i64 c.pages] 23)
 obtain ⟨y0,y1,y2,y3,y4,y5,y6,y7,y8⟩:=cells9 hrow
 obtain ⟨wA,hw1⟩:∃ y,w.alloc (.cells #[.int .i64 c.a0,.int .i64 c.a1,.int .i64 c.a2,.int .i64 c.a3,.int .i64 c.page,.int .i64 c.a5,.int .i64 c.procs,.int .i64 c.regions,.int .i64 c.pages] 23)=y:=⟨_,rfl⟩
 rw [hw1] at hrow hb0 y0 y1 y2 y3 y4 y5 y6 y7 y8;have HW1:=Lib.hid hw1;have HB:=Lib.hid hb0
 have HC:=Lib.hid (newmc_yes (w:=wA) (c:=c) h)
 clear hrow hb0 hw1 h
 unfold Cf.val at HC ⊢
 go_enter Tryz.func6,Tryz.ntmps6
 go_wp2_with (first | (rw [HW1.out]) | (go_at_call 23;refine HC.out.mono ?_;rintro e wB ⟨h1,rfl,m1,g1,_,hb1⟩;have M1:=Lib.hid m1;have G1:=Lib.hid g1;have HB1:=Lib.hid hb1;replace y0:=cel0 hb1 y0;replace y1:=cel0 hb1 y1;replace y2:=cel0 hb1 y2;replace y3:=cel0 hb1 y3;replace y4:=cel0 hb1 y4;replace y5:=cel0 hb1 y5;replace y6:=cel0 hb1 y6;replace y7:=cel0 hb1 y7;replace y8:=cel0 hb1 y8;clear m1 g1 hb1))
 refine' reg_free (G:=Kept) (pickF [eqV _,eqV _,eqV _,(fun v w5=>∃ h2:McH,v=Value.pointer (some ⟨h2.m,0,none⟩)∧McIn w5 (fun k=>h1.own k∨h2.own k) h1 (mc0 c)∧McIn w5 (fun k=>h1.own k∨h2.own k) h2 (mc0 c)∧∀ k,h2.own k→wB.heap.size≤k),(fun v w5=>∃ h2:McH,v=Value.agg #[.int .i64 c.a0,.int .i64 c.a1,.int .i64 c.a2,.int .i64 c.a3,.int .i64 c.page,.int .i64 c.a5,.int .i64 c.procs,.int .i64 c.regions,.int .i64 c.pages,.pointer (some ⟨h1.m,0,none⟩),.pointer (some ⟨h2.m,0,none⟩),.int .u64 1,.pointer none,.bool false]∧McIn w5 (fun k=>h1.own k∨h2.own k) h1 (mc0 c)∧McIn w5 (fun k=>h1.own k∨h2.own k) h2 (mc0 c)∧∀ k,h2.own k→wB.heap.size≤k),(fun v w5=>∃ b,∃ h2:McH,v=Value.pointer (some ⟨b,0,none⟩)∧w5.heap[b]?=some (.cells #[.int .i64 c.a0,.int .i64 c.a1,.int .i64 c.a2,.int .i64 c.a3,.int .i64 c.page,.int .i64 c.a5,.int .i64 c.procs,.int .i64 c.regions,.int .i64 c.pages,.pointer (some ⟨h1.m,0,none⟩),.pointer (some ⟨h2.m,0,none⟩),.int .u64 1,.pointer none,.bool false] 63 (0,0))∧wB.heap.size≤b∧McIn w5 (fun k=>h1.own k∨h2.own k∨k=b) h1 (mc0 c)∧McIn w5 (fun k=>h1.own k∨h2.own k∨k=b) h2 (mc0 c)∧¬ h2.own b∧∀ k,h2.own k→wB.heap.size≤k),(fun v w5=>∃ b,∃ h2:McH,v=Value.pointer (some ⟨b,0,none⟩)∧w5.heap[b]?=some (.cells #[.int .i64 c.a0,.int .i64 c.a1,.int .i64 c.a2,.int .i64 c.a3,.int .i64 c.page,.int .i64 c.a5,.int .i64 c.procs,.int .i64 c.regions,.int .i64 c.pages,.pointer (some ⟨h1.m,0,none⟩),.pointer (some ⟨h2.m,0,none⟩),.int .u64 1,.pointer none,.bool false] 63 (0,0))∧wB.heap.size≤b∧McIn w5 (fun k=>h1.own k∨h2.own k∨k=b) h1 (mc0 c)∧McIn w5 (fun k=>h1.own k∨h2.own k∨k=b) h2 (mc0 c)∧¬ h2.own b∧∀ k,h2.own k→wB.heap.size≤k),eqV _]) [14,15,16,17,18,19,2,3] [[],[],[],[2],[0,1,3],[4],[5],[]] [0,1,2,3,4,5,6,7] (by kernel_rfl) Kept.refl Kept.trans (pick_stays ⟨eS _,eS _,eS _,fun _ _ _ p b=>by obtain ⟨h2,e,q1,q2,q3⟩:=p;exact ⟨h2,e,q1.below b,q2.below b,q3⟩,fun _ _ _ p b=>by obtain ⟨h2,e,q1,q2,q3⟩:=p;exact ⟨h2,e,q1.below b,q2.below b,q3⟩,fun _ _ _ p b=>by obtain ⟨b',h2,e,q0,q1,q2,q3,q4⟩:=p;exact ⟨b',h2,e,row_keep q0 b,q1,q2.below b,q3.below b,q4⟩,fun _ _ _ p b=>by obtain ⟨b',h2,e,q0,q1,q2,q3,q4⟩:=p;exact ⟨b',h2,e,row_keep q0 b,q1,q2.below b,q3.below b,q4⟩,eS _,trivial⟩) 20 rfl (by kernel_rfl) (by kernel_rfl) rfl rfl ?r1obl ?r1fin
 case r1obl=>
  refine ⟨?r1o0,?r1o1,?r1o2,?r1o3,?r1o4,?r1o5,?r1o6,?r1o7,trivial⟩
  case r1o0=>
   intro w1 hG;refine t1o (by rfl) ?_;intro K hK
   have hbk:=kept_0 hG
   replace y0:=cel0 hbk y0;replace y1:=cel0 hbk y1;replace y2:=cel0 hbk y2;replace y3:=cel0 hbk y3;replace y4:=cel0 hbk y4;replace y5:=cel0 hbk y5;replace y6:=cel0 hbk y6;replace y7:=cel0 hbk y7;replace y8:=cel0 hbk y8;go_simp;refine hK _ _ ⟨rfl,Kept.refl _,?_⟩;show _=_;simp only [gv1];rfl
  case r1o1 | r1o2 | r1o7=>
   intro w1 hG;refine t1o (by rfl) ?_;intro K hK;go_simp;refine hK _ _ ⟨rfl,Kept.refl _,?_⟩;show _=_;simp only [gv1];rfl
  case r1o3=>
   intro w1 hG;intro v2 h2;change _=_ at h2;subst h2;refine t1o (by rfl) ?_;intro K hK;simp only [gv2]
   have hbk:=kept_0 hG
   go_simp
   refine Calls.mono (twin_any (M1.out.below hbk)) ?_
   rintro e w2 ⟨h2,rfl,q1,q2,q3,q4⟩
   refine hK _ _ ⟨rfl,q4,?_⟩
   exact ⟨h2,rfl,(M1.out.below hbk).up q4 (fun _ h=>.inl h) (fun k hk=>hk.imp id (q2 k)) q1.lt,q1,fun k hk=>Nat.le_trans hbk.size (q2 k hk)⟩
  case r1o4=>
   intro w1 hG;intro v0 h0;change _=_ at h0;subst h0;intro v1 h1;change _=_ at h1;subst h1;intro v3 h3
   obtain ⟨h3,rfl,m31,m32,g3⟩:=h3
   refine t1o (by rfl) ?_;intro K hK;simp only [gv2];go_simp;refine hK _ _ ⟨rfl,Kept.refl _,?_⟩
   exact ⟨h3,rfl,m31,m32,g3⟩
  case r1o5=>
   intro w1 hG;intro v4 h4
   obtain ⟨h4,rfl,m41,m42,g4⟩:=h4
   refine t1o (by rfl) ?_;intro K hK;simp only [gv2]
   have hbk:=kept_0 hG
   go_simp
   refine hK _ _ ⟨rfl,(Below.refl _ _).alloc (Nat.le_refl _) _,?_⟩
   have hbn:Below w1.heap.size w1 (w1.alloc (.cells #[.int .i64 c.a0,.int .i64 c.a1,.int .i64 c.a2,.int .i64 c.a3,.int .i64 c.page,.int .i64 c.a5,.int .i64 c.procs,.int .i64 c.regions,.int .i64 c.pages,.pointer (some ⟨h1.m,0,none⟩),.pointer (some ⟨h4.m,0,none⟩),.int .u64 1,.pointer none,.bool false] 63)):=(Below.refl _ _).alloc (Nat.le_refl _) _
   have hlt:∀ k,h1.own k∨h4.own k∨k=w1.heap.size→k < (w1.alloc (.cells #[.int .i64 c.a0,.int .i64 c.a1,.int .i64 c.a2,.int .i64 c.a3,.int .i64 c.page,.int .i64 c.a5,.int .i64 c.procs,.int .i64 c.regions,.int .i64 c.pages,.pointer (some ⟨h1.m,0,none⟩),.pointer (some ⟨h4.m,0,none⟩),.int .u64 1,.pointer none,.bool false] 63)).heap.size:=fun k hk=>by
    have hz:(w1.alloc (.cells #[.int .i64 c.a0,.int .i64 c.a1,.int .i64 c.a2,.int .i64 c.a3,.int .i64 c.page,.int .i64 c.a5,.int .i64 c.procs,.int .i64 c.regions,.int .i64 c.pages,.pointer (some ⟨h1.m,0,none⟩),.pointer (some ⟨h4.m,0,none⟩),.int .u64 1,.pointer none,.bool false] 63)).heap.size=w1.heap.size+1:=by simp
    rcases hk with hk | hk | hk
    ·have:=m41.lt k (.inl hk);omega
    ·have:=m41.lt k (.inr hk);omega
    ·omega
   have hdn:∀ k,h1.own k∨h4.own k∨k=w1.heap.size→(h1.own k∨h4.own k)∨w1.heap.size≤k:=fun k hk=>by
    rcases hk with hk | hk | hk
    ·exact .inl (.inl hk)
    ·exact .inl (.inr hk)
    ·exact .inr (by omega)
   have hup:∀ k,h1.own k∨h4.own k→h1.own k∨h4.own k∨k=w1.heap.size:=fun k hk=>hk.elim .inl (fun e=>.inr (.inl e))
   exact ⟨_,h4,rfl,heap_alloc_new _ _,hbk.size,m41.up hbn hup hdn hlt,m42.up hbn hup hdn hlt,fun e=>by have:=m42.lt _ (.inr e);omega,g4⟩
  case r1o6=>
   intro w1 hG;intro v5 h5
   obtain ⟨b5,h5,rfl,r5,z5,m51,m52,n5,g5⟩:=h5
   refine t1o (by rfl) ?_;intro K hK;simp only [gv2];go_simp;refine hK _ _ ⟨rfl,Kept.refl _,?_⟩
   exact ⟨b5,h5,rfl,r5,z5,m51,m52,n5,g5⟩
 intro w1 hG;intro v0 h0;change _=_ at h0;subst h0;intro v1 h1;change _=_ at h1;subst h1;intro v2 h2;change _=_ at h2;subst h2;intro v3 h3
 obtain ⟨h3,rfl,m31,m32,g3⟩:=h3
 intro v4 h4
 obtain ⟨h4,rfl,m41,m42,g4⟩:=h4
 intro v5 h5
 obtain ⟨b5,h5,rfl,r5,z5,m51,m52,n5,g5⟩:=h5
 intro v6 h6
 obtain ⟨b6,h6,rfl,r6,z6,m61,m62,n6,g6⟩:=h6
 intro v7 h7;change _=_ at h7;subst h7
 simp only [Given,gv2]
 go_wp2_with fail
 go_ret2
 have hbk:=kept_0 hG
 have hge:∀ k,h1.own k→w.heap.size≤k:=fun k hk=>Nat.le_trans HB.out.size (G1.out k hk)
 have hsz:w.heap.size≤wB.heap.size:=Nat.le_trans HB.out.size HB1.out.size
 exact ⟨b6,h1,h6,rfl,m61,m62,⟨r6⟩,fun k h1 h2=>by have:=M1.out.lt k h1;have:=g6 k h2;omega,fun e=>by have:=M1.out.lt _ e;omega,n6,fun k hk=>by
  rcases hk with hk | hk | hk
  ·exact hge k hk
  ·have:=g6 k hk;omega
  ·omega,(HB.out.trans (HB1.out.mono HB.out.size)).trans (hbk.mono hsz)⟩
end
def cf25:Cf:=⟨0,0,0,0,16,0,3,4,8⟩
theorem cf25_ok:CfOk cf25:=⟨by decide,by decide,by decide,by decide⟩
theorem shape25 (w:World):Calls Tryz.prog 18 #[] w fun e w'=>e = .returned cf25.val∧Below w.heap.size w w':=by
 unfold Cf.val cf25
 go_enter Tryz.func18,Tryz.ntmps18
 go_wp2
 have hr:=heap_alloc_new w (.cells #[.int .i64 0,.int .i64 0,.int .i64 0,.int .i64 0,.int .i64 16,.int .i64 0,.int .i64 3,.int .i64 4,.int .i64 8] 23)
 obtain ⟨y0,y1,y2,y3,y4,y5,y6,y7,y8⟩:=cells9 hr
 refine bodyPost_ret (v:=.agg #[.int .i64 0,.int .i64 0,.int .i64 0,.int .i64 0,.int .i64 16,.int .i64 0,.int .i64 3,.int .i64 4,.int .i64 8]) (by simp [results,Tryz.results18,go_sem,y0,y1,y2,y3,y4,y5,y6,y7,y8]) rfl ?_
 exact ⟨rfl,below_a _ _⟩
theorem DnS.ptys {w w':World} {b:Nat} {c:Cf} {h1 h2:McH} (d:DnS w w' b c h1 h2):Ptys w w' [duP b c (some h1.m) (some h2.m) 1 none false,mcP h1 (mc0 c),mcP h2 (mc0 c),emP] []:=by
 have hlt:∀ k,h1.own k∨h2.own k∨k=b→k < w'.heap.size:=fun k hk=>d.m1.lt k hk
 refine ⟨⟨fun k=>h1.own k∨h2.own k∨k=b,fun i P hP=>?_,fun o ho=>(by cases ho),d.ge,hlt⟩,fun i j P Q hne hP hQ k k1 k2=>?_,d.bel⟩
 ·match i,hP with
  | 0,hP=>injection hP with hP;subst hP;exact ⟨d.row.row,.inr (.inr rfl)⟩
  | 1,hP=>injection hP with hP;subst hP;exact d.m1
  | 2,hP=>injection hP with hP;subst hP;exact d.m2
  | 3,hP=>injection hP with hP;subst hP;trivial
  | i+4,hP=>simp at hP
 ·match i,j,hP,hQ with
  | 0,0,_,_=>omega
  | 1,1,_,_=>omega
  | 2,2,_,_=>omega
  | 3,_,hP,_=>injection hP with hP;subst hP;exact k1
  | _,3,_,hQ=>injection hQ with hQ;subst hQ;exact k2
  | 0,1,hP,hQ=>injection hP with hP;injection hQ with hQ;subst hP hQ;have e:k=b:=k1;subst e;exact d.d1 k2
  | 0,2,hP,hQ=>injection hP with hP;injection hQ with hQ;subst hP hQ;have e:k=b:=k1;subst e;exact d.d2 k2
  | 1,0,hP,hQ=>injection hP with hP;injection hQ with hQ;subst hP hQ;have e:k=b:=k2;subst e;exact d.d1 k1
  | 2,0,hP,hQ=>injection hP with hP;injection hQ with hQ;subst hP hQ;have e:k=b:=k2;subst e;exact d.d2 k1
  | 1,2,hP,hQ=>injection hP with hP;injection hQ with hQ;subst hP hQ;exact d.d12 k k1 k2
  | 2,1,hP,hQ=>injection hP with hP;injection hQ with hQ;subst hP hQ;exact d.d12 k k2 k1
  | i+4,_,hP,_=>simp at hP
  | _,j+4,_,hQ=>simp at hQ
def op25:OpP:=⟨1,0,0,0,0,[]⟩
theorem ans25:ansM (mc0 cf25) op25.o=⟨0,0,[],[]⟩:=by kernel_rfl
theorem pids25:(pidsK (stepM (mc0 cf25) op25.o).v (stepM (mc0 cf25) op25.o).pr).length=1:=by kernel_rfl
theorem see25 {No:Nat→Prop} {h:McH} {w:World} (i:McIn w No h (stepM (mc0 cf25) op25.o)):Calls Tryz.prog 19 #[.pointer (some ⟨h.m,0,none⟩)] w fun e w'=>e = .returned (.bool true)∧Below w.heap.size w w':=by
 have HC:=pids_any i
 obtain ⟨LK,hLK⟩:∃ x,pidsK (stepM (mc0 cf25) op25.o).v (stepM (mc0 cf25) op25.o).pr=x:=⟨_,rfl⟩
 have hl:LK.length=1:=by rw [← hLK];exact pids25
 rw [hLK] at HC;have HC:=Lib.hid HC;have HL:=Lib.hid hl;clear i hLK hl
 go_enter Tryz.func19,Tryz.ntmps19
 go_wp2_with fail
 refine HC.out.mono ?_
 rintro e w3 ⟨v,rfl,ho,hb3⟩
 obtain ⟨a,c,rfl⟩:=ho.shape
 rw [HL.out];go_wp2_with fail
 go_ret
 exact ⟨rfl,hb3⟩
theorem known25 (w:World):Calls Tryz.prog 4 #[] w fun e w'=>e = .returned (.bool true)∧Below w.heap.size w w':=by
 obtain ⟨M1,hM1⟩:∃ x,stepM (mc0 cf25) op25.o=x:=⟨_,rfl⟩
 have HSEE:Hid (∀ (No:Nat→Prop) (h:McH) (w:World),McIn w No h M1→Calls Tryz.prog 19 #[.pointer (some ⟨h.m,0,none⟩)] w fun e w'=>e = .returned (.bool true)∧Below w.heap.size w w'):=fun No h w i=>see25 (by rw [hM1];exact i)
 have HM1:=Lib.hid hM1;clear hM1
 go_enter Tryz.func4,Tryz.ntmps4
 go_wp2_with fail
 refine (shape25 w).mono ?_
 rintro e w1 ⟨rfl,hb1⟩
 go_wp2_with fail
 refine (dnew_yes cf25_ok).mono ?_
 rintro e w2 ⟨b,h1,h2,rfl,d⟩
 have S0:=Lib.hid d.ptys;clear d;go_wp2_with fail
 have hdo:=do_up S0.out rfl rfl op25 none 0 0 (by decide) (fun No _=>⟨RdAt.nil _ _,fun x hx=>by cases hx⟩) ⟨0,0,[],[]⟩ ans25 none none 0 0 0 0 (RdAt.nil _ _) (RdAt.nil _ _)
 rw [HM1.out] at hdo
 refine hdo.mono ?_
 rintro e w3 ⟨h3,rfl,s1⟩
 have S1:Hid (Ptys w1 w3 [duP b cf25 (some h3.m) (some h2.m) 1 none false,mcP h3 M1,mcP h2 (mc0 cf25),emP] []):=s1
 clear s1 hdo S0;go_wp2_with fail
 refine (begin_new S1.out rfl rfl rfl).mono ?_
 rintro e w4 ⟨hP,rfl,s2⟩
 have S2:Hid (Ptys w1 w4 [duP b cf25 (some h3.m) (some h2.m) 1 (some hP.m) false,mcP h3 M1,mcP h2 (mc0 cf25),mcP hP M1] []):=s2
 clear s2 S1;go_wp2_with fail
 have hco:=commit_ok (S2.out.du (i:=0) rfl) ⟨by omega,by omega⟩
 rw [show (1:Int)+1=2 from rfl] at hco
 refine hco.mono ?_
 rintro e w5 ⟨rfl,d5,t5⟩
 have s3:=(S2.out.turn 0 rfl t5 d5.row).move 3 2 rfl
 have S3:Hid (Ptys w1 w5 [duP b cf25 (some h3.m) (some hP.m) 2 none false,mcP h3 M1,mcP hP M1,emP] []):=s3
 clear s3 S2 d5 t5 hco;go_wp2_with fail
 refine (cut_off (S3.out.du (i:=0) rfl)).mono ?_
 rintro e w6 ⟨rfl,d6,t6⟩
 have S4:Hid (Ptys w1 w6 [duP b cf25 none (some hP.m) 2 none false,mcP h3 M1,mcP hP M1,emP] []):=S3.out.turn 0 rfl t6 d6.row
 clear S3 d6 t6;go_wp2_with fail
 refine (boot_known S4.out rfl (iM:=2) rfl rfl 2 ⟨by omega,by omega⟩ (.inl ⟨rfl,rfl⟩) (fun w7 hb7=>by obtain ⟨No,q,_⟩:=(S4.out.below hb7).ex;exact HSEE.out No hP w7 (q 2 _ rfl))).mono ?_
 rintro e w8 ⟨h8,rfl,s5⟩
 have S5:Hid (Ptys w1 w8 [duP b cf25 (some h8.m) (some hP.m) 2 none false,mcP h8 M1,mcP hP M1,emP] []):=s5
 clear s5 S4;go_wp2_with fail
 refine (live_any S5.out rfl rfl rfl).mono ?_
 rintro e w9 ⟨h9,rfl,hb9⟩
 have HB9:=Lib.hid hb9;clear hb9;go_wp2_with fail
 go_ret
 exact ⟨rfl,(hb1.trans (S5.out.bel.mono hb1.size)).trans (HB9.out.mono (Nat.le_trans hb1.size S5.out.bel.size))⟩
theorem nat_wf {k n:Nat} (hk:k < n) (hn:n≤64):(Lit.int .i64 (k:Int)).wf=true:=by
 have h1:IntKind.i64.min = -9223372036854775808:=by kernel_rfl
 have h2:IntKind.i64.max=9223372036854775807:=by kernel_rfl
 rw [Lit.wf,Bool.and_eq_true,decide_eq_true_iff,decide_eq_true_iff,h1,h2]
 omega
section
variable {No No2:Nat→Prop} {h:McH} {hr:RmH} {st:Mc} {w:World}
set_option maxHeartbeats 2000000 in
theorem looks25_yes (i:McIn w No h st) (r:RmIn w No2 hr st) :
  Calls Tryz.prog 16 #[.pointer (some ⟨h.m,0,none⟩),.pointer (some ⟨hr.m,0,none⟩)] w fun e w'=>e = .returned (.bool true)∧Below w.heap.size w w':=by
 have HI:=Lib.hid i;have HR:=Lib.hid r;have HPRI:=Lib.hid i.ok.prI
 have hprl:st.pr≤64:=i.ok.prL.2
 clear i r
 go_enter Tryz.func16,Tryz.ntmps16
 go_wp2_with fail
 go_loopw [5] (fun i wr=>∃ k:Nat,k≤st.pr∧i = .int .i64 k∧Hid (Below w.heap.size w wr)) (fun i _=>st.pr - (intOf i).toNat)
 case atStart=>exact ⟨0,by omega,rfl,Below.refl _ _⟩
 case round=>
  obtain ⟨k,hk,rfl,B⟩:=hrel
  have HI1:=Lib.hid (HI.out.below B.out)
  have HR1:=Lib.hid (HR.out.below B.out)
  obtain ⟨c4,c6,c7,c8,c9,c10⟩:=HR1.out.cells
  rw [← HPRI.out] at c6
  by_cases hkp:k < st.pr
  ·have dk:decide ((k:Int) < (st.pr:Int))=true:=decide_eq_true (by omega)
   have hwf:=nat_wf hkp hprl
   have HWF:=Lib.hid hwf;clear hwf c4 c7 c8;go_wp2_with fail
   refine (looks_yes HI1.out HR1.out (k:Int) (k:Int) HWF.out HWF.out).mono ?_
   rintro e w2 ⟨rfl,hb2⟩
   replace c9:=cel0 hb2 c9
   have HR2:=Lib.hid (HR1.out.below hb2)
   have HI2:=Lib.hid (HI1.out.below hb2)
   have HB2:=Lib.hid hb2;clear hb2 c6 c10 HI1 HR1
   obtain ⟨zc,zs,hset⟩:=HR2.out.set
   have HSET:=Lib.hid hset;clear hset;go_wp2_with fail
   refine (crhas_any hr.s hr.sl st.pr st.v (k:Int) w2 HSET.out).mono ?_
   rintro e w' ⟨rfl,rfl⟩
   obtain ⟨HS,hHS⟩:∃ x,hasB st.pr st.v (k:Int)=x:=⟨_,rfl⟩
   rw [hHS]
   have HHS:Hid (st.has (k:Int)=HS):=by show _=_;unfold Mc.has;rw [← HPRI.out];exact hHS
   clear hHS HSET
   cases HS with
   | false=>
    go_wp2_with fail
    go_roundw
    case rel=>exact ⟨k+1,by omega,by go_num,B.out.trans (HB2.out.mono B.out.size)⟩
    case measure=>simp [intOf] <;> omega
   | true=>
    obtain ⟨LK,hLK⟩:∃ x,(st.ms (k:Int)).map Prod.fst=x:=⟨_,rfl⟩
    have HC:=stored_any HI2.out (k:Int)
    rw [hLK] at HC;have HLK:=Lib.hid hLK;have HC:=Lib.hid HC;clear hLK;go_wp2_with fail
    refine HC.out.mono ?_
    rintro e w3 ⟨v,rfl,ho,hb3⟩
    obtain ⟨a,c,rfl⟩:=ho.shape
    have HO:=Lib.hid ho.rd
    have HI3:=Lib.hid (HI2.out.below hb3)
    have HR3:=Lib.hid (HR2.out.below hb3)
    have HB3:=Lib.hid (HB2.out.trans (hb3.mono HB2.out.size))
    have hll:=HO.out.max
    have hlc:=HO.out.cap
    have HLL:Hid (LK.length≤9223372036854775807):=by show _≤_;unfold maxLen at hll;omega
    clear ho hb3 HB2 HI2 HR2 HC hll hlc;go_wp2_with fail
    go_loopw [7] (fun i wr=>∃ j:Nat,j≤LK.length∧i = .int .i64 j∧Hid (Below w3.heap.size w3 wr)) (fun i _=>LK.length - (intOf i).toNat)
    case atStart=>exact ⟨0,by omega,rfl,Below.refl _ _⟩
    case round=>
     obtain ⟨j,hj,rfl,B4⟩:=hrel
     have hlm:=HLL.out
     by_cases hjn:j < LK.length
     ·have dj:decide ((j:Int) < (LK.length:Int))=true:=decide_eq_true (by omega)
      have HI4:=Lib.hid (HI3.out.below B4.out)
      have HR4:=Lib.hid (HR3.out.below B4.out)
      have HO4:=Lib.hid (HO.out.below B4.out)
      obtain ⟨lb,lo,rfl,lc⟩:=HO4.out.cell j hjn
      obtain ⟨X,hX⟩:∃ x,nth LK j=x:=⟨_,rfl⟩
      rw [hX] at lc;go_wp2_with fail
      have hxm:X ∈ LK:=by rw [← hX,nth_eq hjn];exact List.getElem_mem _
      have hxw:=HO4.out.wf X hxm
      have hfb:findB (st.rs (k:Int)) X=true:=by
       rw [← HLK.out] at hxm
       obtain ⟨y,hy,e⟩:=List.mem_map.1 hxm
       rw [← e]
       exact (HI4.out.ok.pg (k:Int) y hy).2
      obtain ⟨PB,hPB⟩:∃ x,pgB st.c.page (st.ms (k:Int)) X=x:=⟨_,rfl⟩
      have HPB:=Lib.hid hPB
      refine (pageof_yes HI4.out (k:Int) X HWF.out hxw hfb).mono ?_
      rintro e w5 ⟨v,rfl,ho,hb5⟩
      rw [hPB] at ho
      obtain ⟨pa,pc,rfl⟩:=ho.shape
      have HD5:=Lib.hid ho.rd
      have HR5:=Lib.hid (HR4.out.below hb5)
      have HB5:=Lib.hid hb5;replace lc:=cel0 hb5 lc
      obtain ⟨q,hq,hql,cp⟩:=HR5.out.ptr HHS.out
      have hqk:q=k:=by omega
      subst hqk
      have d10:=HR5.out.cells.2.2.2.2.2
      have LC:=Lib.hid lc;have CP:=Lib.hid cp;have D10:=Lib.hid d10;clear hxm hxw hfb hPB ho hb5 lc cp d10 hq hX c9;go_wp2_with fail
      refine' reg_free (G:=Kept) (pickF [eqV _,eqV _,eqV _,eqV _,eqV _,eqV _,eqV _,eqV _,eqV _,eqV _,eqV _,eqV _,eqV _,eqV _,(fun v w5=>∃ a n c,v=Value.slice a n c∧RdAt .u8 w5 a n c PB),eqV _,eqV (.bool false)]) [58,59,60,61,62,63,64,65,66,67,68,69,70,71,72,73,74] [[],[0],[],[],[3],[4],[5],[],[6,7],[8],[],[],[10,11],[12],[2,9,13],[14],[1,15]] [0,1,2,3,4,5,6,7,8,9,10,11,12,13,14,15,16] (by kernel_rfl) Kept.refl Kept.trans (pick_stays ⟨eS _,eS _,eS _,eS _,eS _,eS _,eS _,eS _,eS _,eS _,eS _,eS _,eS _,eS _,fun _ _ _ p b=>by obtain ⟨a,n,c,e,q⟩:=p;exact ⟨a,n,c,e,q.below b⟩,eS _,eS _,trivial⟩) 75 rfl (by kernel_rfl) (by kernel_rfl) rfl rfl ?r1obl ?r1fin
      case r1obl=>
       refine ⟨?r1o0,?r1o1,?r1o2,?r1o3,?r1o4,?r1o5,?r1o6,?r1o7,?r1o8,?r1o9,?r1o10,?r1o11,?r1o12,?r1o13,?r1o14,?r1o15,?r1o16,trivial⟩
       case r1o0 | r1o2 | r1o3 | r1o7 | r1o10 | r1o11=>
        intro w1 hG;refine t1o (by rfl) ?_;intro K hK;go_simp;refine hK _ _ ⟨rfl,Kept.refl _,?_⟩;show _=_;simp only [gv1];rfl
       case r1o1=>
        intro w1 hG;intro v0 h0;change _=_ at h0;subst h0;refine t1o (by rfl) ?_;intro K hK;simp only [gv2]
        have hbk:=kept_0 hG
        refine wp_conv 59 rfl u8T s8 su _ rfl rfl (HD5.out.below hbk) ?_
        refine hK _ _ ⟨rfl,Kept.refl _,?_⟩;show _=_;simp only [gv1];rfl
       case r1o4 | r1o5=>
        intro w1 hG;intro va ha;change _=_ at ha;subst ha;refine t1o (by rfl) ?_;intro K hK;simp only [gv2];go_simp;refine hK _ _ ⟨rfl,Kept.refl _,?_⟩;show _=_;simp only [gv1];rfl
       case r1o6=>
        intro w1 hG;intro v5 h5;change _=_ at h5;subst h5;refine t1o (by rfl) ?_;intro K hK;simp only [gv2]
        have hbk:=kept_0 hG
        have d10:=cel0 hbk D10.out
        go_simp;refine hK _ _ ⟨rfl,Kept.refl _,?_⟩;show _=_;simp only [gv1];rfl
       case r1o8=>
        intro w1 hG;intro va ha;change _=_ at ha;subst ha;intro vb hb;change _=_ at hb;subst hb;refine t1o (by rfl) ?_;intro K hK;simp only [gv2];go_simp;refine hK _ _ ⟨rfl,Kept.refl _,?_⟩;show _=_;simp only [gv1];rfl
       case r1o9=>
        intro w1 hG;intro v8 h8;change _=_ at h8;subst h8;refine t1o (by rfl) ?_;intro K hK;simp only [gv2]
        have hbk:=kept_0 hG
        have cp:=cel0 hbk CP.out
        go_simp;refine hK _ _ ⟨rfl,Kept.refl _,?_⟩;show _=_;simp only [gv1];rfl
       case r1o12=>
        intro w1 hG;intro va ha;change _=_ at ha;subst ha;intro vb hb;change _=_ at hb;subst hb;refine t1o (by rfl) ?_;intro K hK;simp only [gv2];go_simp;refine hK _ _ ⟨rfl,Kept.refl _,?_⟩;show _=_;simp only [gv1];rfl
       case r1o13=>
        intro w1 hG;intro v12 h12;change _=_ at h12;subst h12;refine t1o (by rfl) ?_;intro K hK;simp only [gv2]
        have hbk:=kept_0 hG
        have lc:=cel0 hbk LC.out
        go_simp;refine hK _ _ ⟨rfl,Kept.refl _,?_⟩;show _=_;simp only [gv1];rfl
       case r1o14=>
        intro w1 hG;intro v2 h2;change _=_ at h2;subst h2;intro v9 h9;change _=_ at h9;subst h9;intro v13 h13;change _=_ at h13;subst h13;refine t1o (by rfl) ?_;intro K hK;simp only [gv2]
        have hbk:=kept_0 hG
        go_simp
        refine Calls.mono (rbytesOf_any (HR5.out.below hbk) (q:Int) HHS.out X) ?_
        rintro e w2 ⟨a,n,c,rfl,q,hb2⟩
        rw [HPB.out] at q
        refine hK _ _ ⟨rfl,hb2,?_⟩
        exact ⟨a,n,c,rfl,q⟩
       case r1o15=>
        intro w1 hG;intro v14 h14
        obtain ⟨a14,n14,c14,rfl,d14⟩:=h14
        refine t1o (by rfl) ?_;intro K hK;simp only [gv2]
        refine wp_conv 73 rfl u8T s8 su _ rfl rfl (d14) ?_
        refine hK _ _ ⟨rfl,Kept.refl _,?_⟩;show _=_;simp only [gv1];rfl
       case r1o16=>
        intro w1 hG;intro va ha;change _=_ at ha;subst ha;intro vb hb;change _=_ at hb;subst hb;refine t1o (by rfl) ?_;intro K hK;simp only [gv2];go_simp;refine hK _ _ ⟨rfl,Kept.refl _,?_⟩;show _=_;simp only [gv1]
      intro w1 hG;intro v0 h0;change _=_ at h0;subst h0;intro v1 h1;change _=_ at h1;subst h1;intro v2 h2;change _=_ at h2;subst h2;intro v3 h3;change _=_ at h3;subst h3;intro v4 h4;change _=_ at h4;subst h4;intro v5 h5;change _=_ at h5;subst h5;intro v6 h6;change _=_ at h6;subst h6;intro v7 h7;change _=_ at h7;subst h7;intro v8 h8;change _=_ at h8;subst h8
      intro v9 h9;change _=_ at h9;subst h9;intro v10 h10;change _=_ at h10;subst h10;intro v11 h11;change _=_ at h11;subst h11;intro v12 h12;change _=_ at h12;subst h12;intro v13 h13;change _=_ at h13;subst h13;intro v14 h14
      obtain ⟨a14,n14,c14,rfl,d14⟩:=h14
      intro v15 h15;change _=_ at h15;subst h15;intro v16 h16;change _=_ at h16;subst h16
      simp only [Given,gv2]
      have hbk:=kept_0 hG
      go_wp2_with fail
      go_roundw
      case rel=>exact ⟨j+1,by omega,by go_num,(B4.out.trans (HB5.out.mono B4.out.size)).trans (hbk.mono (Nat.le_trans B4.out.size HB5.out.size))⟩
      case measure=>simp [intOf] <;> omega
     ·have dj:decide ((j:Int) < (LK.length:Int))=false:=decide_eq_false (by omega)
      go_wp2_with fail
      go_roundw
      case rel=>exact ⟨k+1,by omega,by go_num,B.out.trans ((HB3.out.trans (B4.out.mono HB3.out.size)).mono B.out.size)⟩
      case measure=>simp [intOf] <;> omega
  ·have dk:decide ((k:Int) < (st.pr:Int))=false:=decide_eq_false (by omega)
   go_wp2_with fail
   go_ret
   exact ⟨rfl,B.out⟩
end
structure ActIn (w:World) (No:Nat→Prop) (b off:Nat) (A:ActP):Prop where
 ex:∃ a6 n6 c6,(w.cell? ⟨b,off,none⟩=some (.int .i64 A.kind)∧w.cell? ⟨b,off+1,none⟩=some (.int .i64 A.o.kind)∧w.cell? ⟨b,off+2,none⟩=some (.int .i64 A.o.pid)∧w.cell? ⟨b,off+3,none⟩=some (.int .i64 A.o.at_)∧w.cell? ⟨b,off+4,none⟩=some (.int .i64 A.o.n)∧w.cell? ⟨b,off+5,none⟩=some (.int .i64 A.o.prot)∧w.cell? ⟨b,off+6,none⟩=some (.slice a6 n6 c6)∧w.cell? ⟨b,off+15,none⟩=some (.bool A.off))∧RdAt .u8 w a6 n6 c6 A.o.data∧∀ x,a6=some x→0 < n6→¬ No x.block
 wf:(Lit.int .i64 A.o.kind).wf=true∧(Lit.int .i64 A.o.pid).wf=true∧(Lit.int .i64 A.o.at_).wf=true∧(Lit.int .i64 A.o.n).wf=true∧(Lit.int .i64 A.o.prot).wf=true
 no:¬ No b
theorem ActIn.more {w w':World} {No No' Q:Nat→Prop} {b off:Nat} {A:ActP} (h:ActIn w No b off A) (t:Tn Q w w') (hq:∀ k,Q k→No k) (h2:∀ k,No' k→No k∨w.heap.size≤k):ActIn w' No' b off A:=by
 obtain ⟨a6,n6,c6,⟨y0,y1,y2,y3,y4,y5,y6,y15⟩,r,x⟩:=h.ex
 have hb:¬ Q b:=fun e=>h.no (hq _ e)
 have hlt:b < w.heap.size:=block_lt_of_cell y0
 have hc:∀ {i v},w.cell? ⟨b,i,none⟩=some v→w'.cell? ⟨b,i,none⟩=some v:=fun {i v} e=>(World.cell?_of_block (a:=⟨b,i,none⟩) (t.block b hlt hb)).trans e
 obtain ⟨r2,x2⟩:=r.keep x t hq h2
 exact ⟨⟨a6,n6,c6,⟨hc y0,hc y1,hc y2,hc y3,hc y4,hc y5,hc y6,hc y15⟩,r2,x2⟩,h.wf,fun e=>by
  rcases h2 _ e with e | e
  ·exact h.no e
  ·omega⟩
def actsP (a:Option Addr) (n:Nat) (L:List ActP):Pty where
 own:=fun _=>False
 In:=fun w No=>L.length=n∧∀ i A,L[i]?=some A→∃ b o,a=some ⟨b,o,none⟩∧ActIn w No b (o+i * 17) A
 more:=fun i t hq _ h2 _=>⟨i.1,fun j A hA=>by obtain ⟨b,o,e,h⟩:=i.2 j A hA;exact ⟨b,o,e,h.more t (fun k hk=>(hq k hk).1) h2⟩⟩
 no:=fun _ _ hk=>hk.elim
theorem ActsAt.in_ {w:World} {a:Option Addr} {n:Nat} {L:List ActP} (h:ActsAt w a n L) {No:Nat→Prop} (hno:∀ k,No k→w.heap.size≤k):(actsP a n L).In w No:=
 ⟨h.len,fun i A hA=>by
  obtain ⟨b,o,e,ho⟩:=h.at_ i A hA
  obtain ⟨a6,n6,c6,a9,n9,c9,a10,n10,c10,⟨y0,y1,y2,y3,y4,y5,y6,y7,y8,y9,y10,y11,y12,y13,y14,y15,y16⟩,r1,r2,r3⟩:=ho.ex
  have hlt:b < w.heap.size:=block_lt_of_cell y0
  exact ⟨b,o,e,⟨a6,n6,c6,⟨y0,y1,y2,y3,y4,y5,y6,y15⟩,r1,fun x hx h0 e=>by have:=hno _ e;have:=r1.lt x hx h0;omega⟩,ho.wf.2.1,fun e=>by have:=hno _ e;omega⟩⟩
section
variable {w0 w:World} {PS:List Pty} {O:List OpsR}
theorem Ptys.rdoAt (s:Ptys w0 w PS O) (i:Nat) {h:RmH} {st:Mc} (hP:PS[i]?=some (rmP h st)) (A:OpP) (ta:Option Addr) (tn tc:Nat)
  (W:(Lit.int .i64 A.kind).wf=true∧(Lit.int .i64 A.pid).wf=true∧(Lit.int .i64 A.at_).wf=true∧(Lit.int .i64 A.n).wf=true∧(Lit.int .i64 A.prot).wf=true) (hX:∀ No:Nat→Prop,(∀ (i:Nat) (P:Pty),PS[i]?=some P→P.In w No)→RdAt .u8 w ta tn tc A.data∧∀ x,ta=some x→0 < tn→¬ No x.block) :
  Calls Tryz.prog 9 #[.pointer (some ⟨h.m,0,none⟩),.agg #[.int .i64 A.kind,.int .i64 A.pid,.int .i64 A.at_,.int .i64 A.n,.int .i64 A.prot,.slice ta tn tc]] w fun e w'=>∃ da dc pa pc,∃ h':RmH,e = .returned (.agg #[.int .i64 (ansM st A.o).err,.int .i64 (ansM st A.o).pid,.slice da (ansM st A.o).data.length dc,.slice pa (ansM st A.o).pids.length pc])∧RdAt .u8 w' da (ansM st A.o).data.length dc (ansM st A.o).data∧RdAt .i64 w' pa (ansM st A.o).pids.length pc (ansM st A.o).pids∧(∀ x,da=some x→0 < (ansM st A.o).data.length→w.heap.size≤x.block)∧(∀ x,pa=some x→0 < (ansM st A.o).pids.length→w.heap.size≤x.block)∧h'.m=h.m∧Ptys w0 w' (PS.set i (rmP h' (stepM st A.o))) O:=by
 obtain ⟨No,h1,h2,h3,h4⟩:=s.ex
 obtain ⟨hrd,hnx⟩:=hX No h1
 refine (rdo_any (h1 i _ hP) A.o ta tn tc W.2.1 W.2.2.1 W.2.2.2.1 hrd hnx).mono ?_
 rintro e w' ⟨dv,pv,h',rfl,od,op,hi,ht,hm,ho⟩
 obtain ⟨da,dc,rfl⟩:=od.shape
 obtain ⟨pa,pc,rfl⟩:=op.shape
 exact ⟨da,dc,pa,pc,h',rfl,od.rd,op.rd,od.blk,op.blk,hm,Ptys.step s.dj s.bel h1 h2 h3 h4 i hP (P':=rmP h' (stepM st A.o)) hi ht (fun k hk=>.inl hk) (fun k hk=>hk.elim .inl (fun e=>(ho k e).imp ((rmP h st).no (h1 i _ hP) k) id)) hi.lt ho⟩
end
def luckP (a:Option Addr) (n c:Nat) (B:List Bool):Pty where
 own:=fun _=>False
 In:=fun w No=>RdB w a n c B∧∀ x,a=some x→0 < n→¬ No x.block
 more:=fun {w w' No No' Q} i t hq _ h2 _=>⟨⟨i.1.len,i.1.cap,i.1.max,fun j hj=>by
   obtain ⟨b,o,e,hc⟩:=i.1.cell j hj
   exact ⟨b,o,e,by rw [← hc];exact World.cell?_of_block (a:=⟨b,o+j,none⟩) (t.block b (block_lt_of_cell (a:=⟨b,o+j,none⟩) hc) (fun hk=>i.2 _ e (by omega) (hq b hk).1))⟩,i.1.void⟩,
  fun x hx h0 e=>by
   obtain ⟨b,o,e1,hc⟩:=i.1.cell 0 h0
   rw [hx] at e1
   injection e1 with e1
   subst e1
   rcases h2 _ e with e | e
   ·exact i.2 _ hx h0 e
   ·have h5:b < w.heap.size:=block_lt_of_cell (a:=⟨b,o+0,none⟩) hc
    exact absurd h5 (Nat.not_lt.2 e)⟩
 no:=fun _ _ hk=>hk.elim
theorem RdB.in_ {w:World} {a:Option Addr} {n c:Nat} {B:List Bool} (h:RdB w a n c B) {No:Nat→Prop} (hno:∀ k,No k→w.heap.size≤k):(luckP a n c B).In w No:=
 ⟨h,fun x hx h0 e=>by
  obtain ⟨b,o,e1,hc⟩:=h.cell 0 h0
  rw [hx] at e1
  injection e1 with e1
  subst e1
  have h5:b < w.heap.size:=block_lt_of_cell (a:=⟨b,o+0,none⟩) hc
  exact absurd h5 (Nat.not_lt.2 (hno _ e))⟩
theorem law_start {w w1 w2 w3:World} {b:Nat} {c:Cf} {h1 h2:McH} {hr:RmH} {a1 a2:Option Addr} {n1 n2 c2:Nat} {L:List ActP} {B:List Bool} (hb:Below w.heap.size w w1) (d:DnS w1 w2 b c h1 h2) (hb2:Below w2.heap.size w2 w3) (r:RmIn w3 (hr.own (mc0 c)) hr (mc0 c)) (ho:∀ k,hr.own (mc0 c) k→w2.heap.size≤k) (hm:w2.heap.size≤hr.m) (hA:ActsAt w a1 n1 L) (hB:RdB w a2 n2 c2 B) :
  Ptys w w3 [duP b c (some h1.m) (some h2.m) 1 none false,mcP h1 (mc0 c),mcP h2 (mc0 c),emP,rmP hr (mc0 c),emP,emP,emP,actsP a1 n1 L,luckP a2 n2 c2 B] []:=by
 have lt2:∀ k,h1.own k∨h2.own k∨k=b→k < w2.heap.size:=fun k hk=>d.m1.lt k hk
 have hup:∀ k,h1.own k∨h2.own k∨k=b→(h1.own k∨h2.own k∨k=b)∨hr.own (mc0 c) k:=fun k hk=>.inl hk
 have hdn:∀ k,(h1.own k∨h2.own k∨k=b)∨hr.own (mc0 c) k→(h1.own k∨h2.own k∨k=b)∨w2.heap.size≤k:=fun k hk=>hk.imp id (ho k)
 have hlt:∀ k,(h1.own k∨h2.own k∨k=b)∨hr.own (mc0 c) k→k < w3.heap.size:=fun k hk=>by
  rcases hk with hk | hk
  ·exact Nat.lt_of_lt_of_le (lt2 k hk) hb2.size
  ·exact r.lt k hk
 have m1:=d.m1.up hb2 hup hdn hlt
 have m2:=d.m2.up hb2 hup hdn hlt
 have hrow:=d.row.below hb2
 have hse:∀ k,(h1.own k∨h2.own k∨k=b)∨hr.own (mc0 c) k→w.heap.size≤k:=fun k hk=>by
  rcases hk with hk | hk
  ·exact Nat.le_trans hb.size (d.ge k hk)
  ·have h5:=ho k hk
   have h6:=d.bel.size
   have h7:=hb.size
   omega
 have hrm:RmIn w3 (fun k=>(h1.own k∨h2.own k∨k=b)∨hr.own (mc0 c) k) hr (mc0 c):=by
  refine r.fresh (fun k hk=>.inr hk) (fun e=>?_) (fun e=>?_) hlt
  ·rcases e with e | e
   ·have:=lt2 _ e;omega
   ·exact r.no.2.2.1 e
  ·rcases e with (e | e | e) | e
   ·exact ref_set_ne m1 r e
   ·exact ref_set_ne m2 r e
   ·obtain ⟨zc,zs,hs⟩:=r.set
    have h5:=hrow.row
    rw [← e] at h5
    exact kinds_ne hs.row h5 (by decide) rfl
   ·exact r.no.2.2.2 e
 have bel:Below w.heap.size w w3:=(hb.trans (d.bel.mono hb.size)).trans (hb2.mono (Nat.le_trans hb.size d.bel.size))
 have hac:(actsP a1 n1 L).In w3 (fun k=>(h1.own k∨h2.own k∨k=b)∨hr.own (mc0 c) k):=(actsP a1 n1 L).more (hA.in_ (No:=fun _=>False) (fun _ h=>h.elim)) (Tn.of (Q:=fun _=>False) bel) (fun _ h=>h.elim) (fun _ h=>h.elim) (fun k hk=>.inr (hse k hk)) hlt
 have hlu:(luckP a2 n2 c2 B).In w3 (fun k=>(h1.own k∨h2.own k∨k=b)∨hr.own (mc0 c) k):=(luckP a2 n2 c2 B).more (hB.in_ (No:=fun _=>False) (fun _ h=>h.elim)) (Tn.of (Q:=fun _=>False) bel) (fun _ h=>h.elim) (fun _ h=>h.elim) (fun k hk=>.inr (hse k hk)) hlt
 have key:∀ (i:Nat) (P:Pty),[duP b c (some h1.m) (some h2.m) 1 none false,mcP h1 (mc0 c),mcP h2 (mc0 c),emP,rmP hr (mc0 c),emP,emP,emP,actsP a1 n1 L,luckP a2 n2 c2 B][i]?=some P→∀ k,P.own k→(i=0∧k=b)∨(i=1∧h1.own k)∨(i=2∧h2.own k)∨(i=4∧hr.own (mc0 c) k):=by
  intro i P hP
  match i,hP with
  | 0,hP=>injection hP with hP;subst hP;exact fun k hk=>.inl ⟨rfl,hk⟩
  | 1,hP=>injection hP with hP;subst hP;exact fun k hk=>.inr (.inl ⟨rfl,hk⟩)
  | 2,hP=>injection hP with hP;subst hP;exact fun k hk=>.inr (.inr (.inl ⟨rfl,hk⟩))
  | 3,hP=>injection hP with hP;subst hP;exact fun k hk=>hk.elim
  | 4,hP=>injection hP with hP;subst hP;exact fun k hk=>.inr (.inr (.inr ⟨rfl,hk⟩))
  | 5,hP=>injection hP with hP;subst hP;exact fun k hk=>hk.elim
  | 6,hP=>injection hP with hP;subst hP;exact fun k hk=>hk.elim
  | 7,hP=>injection hP with hP;subst hP;exact fun k hk=>hk.elim
  | 8,hP=>injection hP with hP;subst hP;exact fun k hk=>hk.elim
  | 9,hP=>injection hP with hP;subst hP;exact fun k hk=>hk.elim
  | i+10,hP=>simp at hP
 refine ⟨⟨_,fun i P hP=>?_,fun o ho=>(by cases ho),hse,hlt⟩,fun i j P Q hne hP hQ k k1 k2=>?_,bel⟩
 ·match i,hP with
  | 0,hP=>injection hP with hP;subst hP;exact ⟨hrow.row,.inl (.inr (.inr rfl))⟩
  | 1,hP=>injection hP with hP;subst hP;exact m1
  | 2,hP=>injection hP with hP;subst hP;exact m2
  | 3,hP=>injection hP with hP;subst hP;trivial
  | 4,hP=>injection hP with hP;subst hP;exact hrm
  | 5,hP=>injection hP with hP;subst hP;trivial
  | 6,hP=>injection hP with hP;subst hP;trivial
  | 7,hP=>injection hP with hP;subst hP;trivial
  | 8,hP=>injection hP with hP;subst hP;exact hac
  | 9,hP=>injection hP with hP;subst hP;exact hlu
  | i+10,hP=>simp at hP
 ·have old:∀ k,h1.own k∨h2.own k∨k=b→¬ hr.own (mc0 c) k:=fun k hk e=>by have:=lt2 k hk;have:=ho k e;omega
  rcases key i P hP k k1 with ⟨e1,x1⟩ | ⟨e1,x1⟩ | ⟨e1,x1⟩ | ⟨e1,x1⟩ <;> rcases key j Q hQ k k2 with ⟨e2,x2⟩ | ⟨e2,x2⟩ | ⟨e2,x2⟩ | ⟨e2,x2⟩
  ·omega
  ·subst x1;exact d.d1 x2
  ·subst x1;exact d.d2 x2
  ·exact old k (.inr (.inr x1)) x2
  ·subst x2;exact d.d1 x1
  ·omega
  ·exact d.d12 k x1 x2
  ·exact old k (.inl x1) x2
  ·subst x2;exact d.d2 x1
  ·exact d.d12 k x2 x1
  ·omega
  ·exact old k (.inr (.inl x1)) x2
  ·exact old k (.inr (.inr x2)) x1
  ·exact old k (.inl x2) x1
  ·exact old k (.inr (.inl x2)) x1
  ·omega
def mcO:Option (McH × RmH × Mc)→Pty
 | none=>emP
 | some p=>mcP p.1 p.2.2
def rmO:Option (McH × RmH × Mc)→Pty
 | none=>emP
 | some p=>rmP p.2.1 p.2.2
def bxP (bx:Nat) (hR:RmH):Pty:=blkP bx #[.pointer (some ⟨hR.m,0,none⟩)] 32
/-- Up: both machines live, the same; what is saved and begun is the same. Down: none lives; saved is the state's saved, or its pending. -/
inductive LwS (w0 w:World) (b bx:Nat) (c:Cf) (AP LP X:Pty) (vl vp:Option Nat) (E:Int) (k:Nat):Prop
 | up (hL:McH) (M:Mc) (hS:McH) (S:Mc) (hr hR:RmH) (pp:Option (McH × RmH × Mc))
   (s:Ptys w0 w [duP b c (some hL.m) (some hS.m) E (pp.map fun p=>p.1.m) false,mcP hL M,mcP hS S,mcO pp,rmP hr M,rmP hR S,rmO pp,bxP bx hR,AP,LP,X] [])
   (e1:vl=some hr.m) (e2:vp=pp.map fun p=>p.2.1.m) (h1:1≤E) (h2:E≤(k:Int)+1)
 | off (hS:McH) (S:Mc) (hR:RmH)
   (s:Ptys w0 w [duP b c none (some hS.m) E none false,emP,mcP hS S,emP,emP,rmP hR S,emP,bxP bx hR,AP,LP,X] [])
   (e1:vl=none) (e2:vp=none) (h1:1≤E) (h2:E≤(k:Int)+1)
 | dS (hS:McH) (S:Mc) (hP:McH) (P:Mc) (hR:RmH)
   (s:Ptys w0 w [duP b c none (some hS.m) E (some hP.m) true,emP,mcP hS S,mcP hP P,emP,rmP hR S,emP,bxP bx hR,AP,LP,X] [])
   (e1:vl=none) (e2:vp=none) (h1:1≤E) (h2:E≤(k:Int)+1)
 | dP (hS:McH) (S:Mc) (hP:McH) (P:Mc) (hR:RmH) (ep:Int)
   (s:Ptys w0 w [duP b c none (some hS.m) ep (some hP.m) true,emP,mcP hS S,mcP hP P,emP,rmP hR P,emP,bxP bx hR,AP,LP,X] [])
   (e1:vl=none) (e2:vp=none) (e3:E=ep+1) (h1:1≤ep) (h2:E≤(k:Int)+1)
section
variable {w0 w w':World} {b bx:Nat} {c:Cf} {AP LP X X':Pty} {vl vp:Option Nat} {E:Int} {k:Nat} {PS:List Pty} {O:List OpsR}
theorem Ptys.addEm (s:Ptys w0 w PS O):Ptys w0 w (PS ++ [emP]) O:=by
 obtain ⟨No,h1,h2,h3,h4⟩:=s.ex
 exact Ptys.add s.dj s.bel h1 h2 h3 h4 (P':=emP) (No':=No) trivial (Below.refl _ _) (fun _ h=>h) (fun _ h=>.inl h) h4 (fun _ h=>h.elim)
theorem LwS.pt (h:LwS w0 w b bx c AP LP X vl vp E k):∃ (PS:List Pty) (lv sv:Option Nat) (ep:Int) (pd:Option Nat) (db:Bool) (hR:RmH),Ptys w0 w PS []∧PS[0]?=some (duP b c lv sv ep pd db)∧PS[7]?=some (bxP bx hR)∧PS[8]?=some AP∧PS[9]?=some LP∧PS[10]?=some X∧(vl=none→lv=none)∧(vl ≠ none→lv ≠ none∧db=false):=by
 cases h with
 | up hL M hS S hr hR pp s e1=>exact ⟨_,_,_,_,_,_,hR,s,rfl,rfl,rfl,rfl,rfl,fun e=>(by rw [e1] at e;cases e),fun _=>⟨fun e=>(by cases e),rfl⟩⟩
 | off hS S hR s e1=>exact ⟨_,_,_,_,_,_,hR,s,rfl,rfl,rfl,rfl,rfl,fun _=>rfl,fun e=>absurd e1 e⟩
 | dS hS S hP P hR s e1=>exact ⟨_,_,_,_,_,_,hR,s,rfl,rfl,rfl,rfl,rfl,fun _=>rfl,fun e=>absurd e1 e⟩
 | dP hS S hP P hR ep s e1=>exact ⟨_,_,_,_,_,_,hR,s,rfl,rfl,rfl,rfl,rfl,fun _=>rfl,fun e=>absurd e1 e⟩
theorem LwS.go (h:LwS w0 w b bx c AP LP X vl vp E k) (f:∀ PS:List Pty,PS[10]?=some X→Ptys w0 w PS []→Ptys w0 w' (PS.set 10 X') []) {k':Nat} (hk:k≤k'):LwS w0 w' b bx c AP LP X' vl vp E k':=by
 cases h with
 | up hL M hS S hr hR pp s e1 e2 h1 h2=>exact .up hL M hS S hr hR pp (f _ rfl s) e1 e2 h1 (by omega)
 | off hS S hR s e1 e2 h1 h2=>exact .off hS S hR (f _ rfl s) e1 e2 h1 (by omega)
 | dS hS S hP P hR s e1 e2 h1 h2=>exact .dS hS S hP P hR (f _ rfl s) e1 e2 h1 (by omega)
 | dP hS S hP P hR ep s e1 e2 e3 h1 h2=>exact .dP hS S hP P hR ep (f _ rfl s) e1 e2 e3 h1 (by omega)
theorem setSame {L:List Pty} {i:Nat} {x:Pty} (h:L[i]?=some x):L.set i x=L:=by
 apply List.ext_getElem?
 intro j;rw [List.getElem?_set]
 by_cases e:i=j
 ·subst e
  rw [if_pos rfl,if_pos (List.getElem?_eq_some_iff.1 h).1,h]
 ·rw [if_neg e]
theorem LwS.below (h:LwS w0 w b bx c AP LP X vl vp E k) (hb:Below w.heap.size w w'):LwS w0 w' b bx c AP LP X vl vp E k:=
 h.go (fun _ e s=>by rw [setSame e];exact s.below hb) (Nat.le_refl _)
theorem LwS.next (h:LwS w0 w b bx c AP LP X vl vp E k):LwS w0 w b bx c AP LP emP vl vp E (k+1):=
 h.go (fun _ _ s=>s.drop 10) (Nat.le_succ _)
theorem LwS.bel (h:LwS w0 w b bx c AP LP X vl vp E k):Below w0.heap.size w0 w:=by
 obtain ⟨PS,_,_,_,_,_,_,s,_⟩:=h.pt
 exact s.bel
theorem LwS.ep (h:LwS w0 w b bx c AP LP X vl vp E k):1≤E∧E≤(k:Int)+1:=by
 cases h with
 | up hL M hS S hr hR pp s e1 e2 h1 h2=>exact ⟨h1,h2⟩
 | off hS S hR s e1 e2 h1 h2=>exact ⟨h1,h2⟩
 | dS hS S hP P hR s e1 e2 h1 h2=>exact ⟨h1,h2⟩
 | dP hS S hP P hR ep s e1 e2 e3 h1 h2=>exact ⟨by omega,h2⟩
theorem LwS.box (h:LwS w0 w b bx c AP LP X vl vp E k):∃ m,w.cell? ⟨bx,0,none⟩=some (.pointer (some ⟨m,0,none⟩))∧w.frozen? ⟨bx,0,none⟩=false:=by
 obtain ⟨PS,_,_,_,_,_,hR,s,_,h7,_⟩:=h.pt
 exact ⟨hR.m,(cell_of_row w bx 0 _ _ _ (s.row h7)).trans rfl,frozen_of_row w bx 0 _ _ (s.row h7)⟩
theorem LwS.act {a1:Option Addr} {n1 j:Nat} {L:List ActP} (h:LwS w0 w b bx c (actsP a1 n1 L) LP X vl vp E k) {A:ActP} (hA:L[j]?=some A):∃ ab ao a6 n6 c6,a1=some ⟨ab,ao,none⟩∧(w.cell? ⟨ab,ao+j * 17,none⟩=some (.int .i64 A.kind)∧w.cell? ⟨ab,ao+j * 17+1,none⟩=some (.int .i64 A.o.kind)∧w.cell? ⟨ab,ao+j * 17+2,none⟩=some (.int .i64 A.o.pid)∧w.cell? ⟨ab,ao+j * 17+3,none⟩=some (.int .i64 A.o.at_)∧w.cell? ⟨ab,ao+j * 17+4,none⟩=some (.int .i64 A.o.n)∧w.cell? ⟨ab,ao+j * 17+5,none⟩=some (.int .i64 A.o.prot)∧w.cell? ⟨ab,ao+j * 17+6,none⟩=some (.slice a6 n6 c6)∧w.cell? ⟨ab,ao+j * 17+15,none⟩=some (.bool A.off))∧((Lit.int .i64 A.o.kind).wf=true∧(Lit.int .i64 A.o.pid).wf=true∧(Lit.int .i64 A.o.at_).wf=true∧(Lit.int .i64 A.o.n).wf=true∧(Lit.int .i64 A.o.prot).wf=true):=by
 obtain ⟨PS,_,_,_,_,_,hR,s,_,_,h8,_⟩:=h.pt
 obtain ⟨No,q,_⟩:=s.ex
 obtain ⟨ab,ao,e,i⟩:=(q 8 _ h8).2 j A hA
 obtain ⟨a6,n6,c6,hc,_⟩:=i.ex
 exact ⟨ab,ao,a6,n6,c6,e,hc,i.wf⟩
theorem acts_len {a1:Option Addr} {n1:Nat} {L:List ActP} (h:LwS w0 w b bx c (actsP a1 n1 L) LP X vl vp E k):L.length=n1:=by
 obtain ⟨PS,_,_,_,_,_,hR,s,_,_,h8,_⟩:=h.pt
 obtain ⟨No,q,_⟩:=s.ex
 exact (q 8 _ h8).1
theorem LwS.luck {a2:Option Addr} {n2 c2:Nat} {B:List Bool} (h:LwS w0 w b bx c AP (luckP a2 n2 c2 B) X vl vp E k):RdB w a2 n2 c2 B:=by
 obtain ⟨PS,_,_,_,_,_,hR,s,_,_,_,h9,_⟩:=h.pt
 obtain ⟨No,q,_⟩:=s.ex
 exact (q 9 _ h9).1
theorem LwS.newX (h:LwS w0 w b bx c AP LP X vl vp E k) {ba:Nat} {row:Array Value} {T:TypeId} (hb:Below w.heap.size w w') (hr:w'.heap[ba]?=some (.cells row T (0,0))) (hn:w.heap.size≤ba):LwS w0 w' b bx c AP LP (blkP ba row T) vl vp E k:=
 h.go (fun _ e s=>s.newRow 10 e hb hr hn) (Nat.le_refl _)
end
section
variable {w0 w:World} {PS:List Pty} {O:List OpsR}
theorem see_law (s:Ptys w0 w PS O) {iM:Nat} {hM:McH} {hR:RmH} {M:Mc} {bx:Nat} (h1:PS[iM]?=some (mcP hM M)) (h5:PS[5]?=some (rmP hR M)) (h7:PS[7]?=some (blkP bx #[.pointer (some ⟨hR.m,0,none⟩)] 32)) (w2:World) (hb:Below w.heap.size w w2) :
  Calls Tryz.prog 15 #[.pointer (some ⟨hM.m,0,none⟩),.pointer (some ⟨bx,0,none⟩)] w2 fun e w'=>e = .returned (.bool true)∧Below w2.heap.size w2 w':=by
 have s2:=s.below hb
 have z0:w2.cell? ⟨bx,0,none⟩=some (.pointer (some ⟨hR.m,0,none⟩)):=(cell_of_row _ _ 0 _ _ _ (s2.row h7)).trans rfl
 obtain ⟨No,q1,_⟩:=s2.ex
 have HL:=Lib.hid (looks25_yes (q1 iM _ h1) (q1 5 _ h5))
 clear s s2 q1 hb h1 h5 h7
 go_enter Tryz.func15,Tryz.ntmps15
 go_wp2_with (first | (go_at_call 16;refine HL.out.mono ?_;rintro e w' ⟨rfl,hb2⟩))
 go_ret
 exact ⟨rfl,hb2⟩
end
end Go.Proofs.YtoepnbfifjgpfaaGreat
