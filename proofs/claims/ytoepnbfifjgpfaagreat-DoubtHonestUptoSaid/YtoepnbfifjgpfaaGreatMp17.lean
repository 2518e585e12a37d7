/- The law's loop: what each call does with what holds. DoubtHonest: the walk. DoubtHonest: for every input the law returns true, and every argument reads as it did: the row round the walk. -/
import Derived.Test.YtoepnbfifjgpfaaGreatMu0
import Derived.Test.YtoepnbfifjgpfaaGreatMp16
import Derived.Test.YtoepnbfifjgpfaaGreatMu3
import Derived.Test.YtoepnbfifjgpfaaGreatMp13
import Derived.WalkKit
import Derived.ProofKit
import Derived.BigQuiet
import Derived.Deep.QuietTactic
import Derived.Lib.Hide
import Derived.RegionTactic
import Derived.Deep.DeepCutAuto
import Derived.Test.YtoepnbfifjgpfaaGreatMp1
import Derived.JoinedCond
import Derived.Test.YtoepnbfifjgpfaaGreatMu25
import Derived.Test.YtoepnbfifjgpfaaGreatRows
import Derived.OpenShut
import Derived.ShutString
import Derived.ChangeOld
import Derived.Below
namespace Go.Proofs.YtoepnbfifjgpfaaGreat
set_option maxRecDepth 100000
open Go.RowKit
set_option linter.unusedSimpArgs false
section
variable {w0 w w':World} {b bx:Nat} {c:Cf} {AP LP X X':Pty} {vl vp:Option Nat} {E:Int} {k:Nat}
/-- Behind the document's operation, ahead of the doubt's. -/
def MdS (w0 w:World) (b bx:Nat) (c:Cf) (AP LP X:Pty) (m:Nat) (vp:Option Nat) (E:Int) (k:Nat) (o:Opn) (AN:Ans):Prop:=
 ∃ (hL:McH) (M:Mc) (hS:McH) (S:Mc) (hr hR:RmH) (pp:Option (McH × RmH × Mc)),
  Ptys w0 w [duP b c (some hL.m) (some hS.m) E (pp.map fun p=>p.1.m) false,mcP hL M,mcP hS S,mcO pp,rmP hr (stepM M o),rmP hR S,rmO pp,bxP bx hR,AP,LP,X] [] ∧
  m=hr.m∧vp=(pp.map fun p=>p.2.1.m)∧1≤E∧E≤(k:Int)+1∧ansM M o=AN
theorem actX {PS:List Pty} {a1:Option Addr} {n1 j ab ao:Nat} {L:List ActP} {A:ActP} (h8:PS[8]?=some (actsP a1 n1 L)) (hA:L[j]?=some A) (ha:a1=some ⟨ab,ao,none⟩) {ta:Option Addr} {tn tc:Nat} (y6:w.cell? ⟨ab,ao+j * 17+6,none⟩=some (.slice ta tn tc)) (No:Nat→Prop) (q:∀ (i:Nat) (P:Pty),PS[i]?=some P→P.In w No):RdAt .u8 w ta tn tc A.o.data∧∀ x,ta=some x→0 < tn→¬ No x.block:=by
 obtain ⟨ab',ao',e,i⟩:=(q 8 _ h8).2 j A hA
 rw [ha] at e
 injection e with e
 injection e with e1 e2
 subst e1 e2
 obtain ⟨a6,n6,c6,⟨_,_,_,_,_,_,z6,_⟩,r,x⟩:=i.ex
 rw [y6] at z6
 injection z6 with z6
 injection z6 with z1 z2 z3
 subst z1 z2 z3
 exact ⟨r,x⟩
theorem rdo_law {a1:Option Addr} {n1 j ab ao:Nat} {L:List ActP} {A:ActP} {m:Nat} (h:LwS w0 w b bx c (actsP a1 n1 L) LP X (some m) vp E k) (hA:L[j]?=some A) (ha:a1=some ⟨ab,ao,none⟩) {ta:Option Addr} {tn tc:Nat} (y6:w.cell? ⟨ab,ao+j * 17+6,none⟩=some (.slice ta tn tc))
  (W:(Lit.int .i64 A.o.kind).wf=true∧(Lit.int .i64 A.o.pid).wf=true∧(Lit.int .i64 A.o.at_).wf=true∧(Lit.int .i64 A.o.n).wf=true∧(Lit.int .i64 A.o.prot).wf=true) :
  Calls Tryz.prog 9 #[.pointer (some ⟨m,0,none⟩),.agg #[.int .i64 A.o.kind,.int .i64 A.o.pid,.int .i64 A.o.at_,.int .i64 A.o.n,.int .i64 A.o.prot,.slice ta tn tc]] w fun e w'=>∃ AN:Ans,∃ da dc pa pc,e = .returned (.agg #[.int .i64 AN.err,.int .i64 AN.pid,.slice da AN.data.length dc,.slice pa AN.pids.length pc])∧RdAt .u8 w' da AN.data.length dc AN.data∧RdAt .i64 w' pa AN.pids.length pc AN.pids∧(∀ x,da=some x→0 < AN.data.length→w.heap.size≤x.block)∧(∀ x,pa=some x→0 < AN.pids.length→w.heap.size≤x.block)∧MdS w0 w' b bx c (actsP a1 n1 L) LP X m vp E k A.o.o AN:=by
 cases h with
 | up hL M hS S hr hR pp s e1 e2 h1 h2=>
  injection e1 with e1
  subst e1
  refine (s.rdoAt 4 rfl A.o ta tn tc W (fun No q=>actX rfl hA ha y6 No q)).mono ?_
  rintro e w' ⟨da,dc,pa,pc,h',rfl,r1,r2,f1,f2,hm,s2⟩
  exact ⟨_,da,dc,pa,pc,rfl,r1,r2,f1,f2,hL,M,hS,S,h',hR,pp,s2,hm.symm,e2,h1,h2,rfl⟩
 | off hS S hR s e1=>cases e1
 | dS hS S hP P hR s e1=>cases e1
 | dP hS S hP P hR ep s e1=>cases e1
/-- The answer is laid into its variable. -/
theorem ans_store {m:Nat} {o:Opn} {AN:Ans} {ba:Nat} {v0 v1 v2 v3:Value} {T:TypeId} (h:MdS w0 w b bx c AP LP (blkP ba #[v0,v1,v2,v3] T) m vp E k o AN) (u0 u1 u2 u3:Value) :
  w.frozen? ⟨ba,0,none⟩=false∧w.heap[ba]?=some (.cells #[v0,v1,v2,v3] T (0,0)) ∧
  ((((w.setCell ⟨ba,0,none⟩ u0).setCell ⟨ba,1,none⟩ u1).setCell ⟨ba,2,none⟩ u2).setCell ⟨ba,3,none⟩ u3).heap[ba]?=some (.cells #[u0,u1,u2,u3] T (0,0)) ∧
  Tn (fun k=>k=ba) w ((((w.setCell ⟨ba,0,none⟩ u0).setCell ⟨ba,1,none⟩ u1).setCell ⟨ba,2,none⟩ u2).setCell ⟨ba,3,none⟩ u3) ∧
  MdS w0 ((((w.setCell ⟨ba,0,none⟩ u0).setCell ⟨ba,1,none⟩ u1).setCell ⟨ba,2,none⟩ u2).setCell ⟨ba,3,none⟩ u3) b bx c AP LP (blkP ba #[u0,u1,u2,u3] T) m vp E k o AN:=by
 obtain ⟨hL,M,hS,S,hr,hR,pp,s,e1,e2,h1,h2,e3⟩:=h
 have r0:=s.row (i:=10) rfl
 have r1:=heap_setCell_same w ba 0 _ _ u0 r0
 have r2:=heap_setCell_same _ ba 1 _ _ u1 r1
 have r3:=heap_setCell_same _ ba 2 _ _ u2 r2
 have r4:=heap_setCell_same _ ba 3 _ _ u3 r3
 have t:=((((tn_set w ba 0 u0).trans (tn_set _ ba 1 u1)).trans (tn_set _ ba 2 u2)).trans (tn_set _ ba 3 u3))
 exact ⟨frozen_of_row w ba 0 _ _ r0,r0,r4,t,hL,M,hS,S,hr,hR,pp,s.turn 10 rfl t r4,e1,e2,h1,h2,e3⟩
theorem MdS.below {m:Nat} {o:Opn} {AN:Ans} (h:MdS w0 w b bx c AP LP X m vp E k o AN) (hb:Below w.heap.size w w'):MdS w0 w' b bx c AP LP X m vp E k o AN:=by
 obtain ⟨hL,M,hS,S,hr,hR,pp,s,e⟩:=h
 exact ⟨hL,M,hS,S,hr,hR,pp,s.below hb,e⟩
theorem MdS.act {a1:Option Addr} {n1 j:Nat} {L:List ActP} {m:Nat} {o:Opn} {AN:Ans} (h:MdS w0 w b bx c (actsP a1 n1 L) LP X m vp E k o AN) {A:ActP} (hA:L[j]?=some A) {ab ao:Nat} (ha:a1=some ⟨ab,ao,none⟩):∃ a6 n6 c6,(w.cell? ⟨ab,ao+j * 17,none⟩=some (.int .i64 A.kind)∧w.cell? ⟨ab,ao+j * 17+1,none⟩=some (.int .i64 A.o.kind)∧w.cell? ⟨ab,ao+j * 17+2,none⟩=some (.int .i64 A.o.pid)∧w.cell? ⟨ab,ao+j * 17+3,none⟩=some (.int .i64 A.o.at_)∧w.cell? ⟨ab,ao+j * 17+4,none⟩=some (.int .i64 A.o.n)∧w.cell? ⟨ab,ao+j * 17+5,none⟩=some (.int .i64 A.o.prot)∧w.cell? ⟨ab,ao+j * 17+6,none⟩=some (.slice a6 n6 c6)):=by
 obtain ⟨hL,M,hS,S,hr,hR,pp,s,_⟩:=h
 obtain ⟨No,q,_⟩:=s.ex
 obtain ⟨ab',ao',e,i⟩:=(q 8 _ rfl).2 j A hA
 rw [ha] at e
 injection e with e
 injection e with e1 e2
 subst e1 e2
 obtain ⟨a6,n6,c6,⟨y0,y1,y2,y3,y4,y5,y6,_⟩,_⟩:=i.ex
 exact ⟨a6,n6,c6,y0,y1,y2,y3,y4,y5,y6⟩
theorem do_law {a1:Option Addr} {n1 j ab ao:Nat} {L:List ActP} {A:ActP} {m:Nat} {AN:Ans} (h:MdS w0 w b bx c (actsP a1 n1 L) LP X m vp E k A.o.o AN) (hA:L[j]?=some A) (ha:a1=some ⟨ab,ao,none⟩) {ta:Option Addr} {tn tc:Nat} (y6:w.cell? ⟨ab,ao+j * 17+6,none⟩=some (.slice ta tn tc))
  (W:(Lit.int .i64 A.o.kind).wf=true∧(Lit.int .i64 A.o.pid).wf=true∧(Lit.int .i64 A.o.at_).wf=true∧(Lit.int .i64 A.o.n).wf=true∧(Lit.int .i64 A.o.prot).wf=true)
  {da pa:Option Addr} {dn dc pn pc:Nat} (hD:RdAt .u8 w da dn dc AN.data) (hP:RdAt .i64 w pa pn pc AN.pids) :
  Calls Tryz.prog 10 #[.pointer (some ⟨b,0,none⟩),.agg #[.int .i64 A.o.kind,.int .i64 A.o.pid,.int .i64 A.o.at_,.int .i64 A.o.n,.int .i64 A.o.prot,.slice ta tn tc],.agg #[.int .i64 AN.err,.int .i64 AN.pid,.slice da dn dc,.slice pa pn pc]] w fun e w'=>e = .returned (.int .i64 0)∧LwS w0 w' b bx c (actsP a1 n1 L) LP X (some m) vp E (k+1):=by
 obtain ⟨hL,M,hS,S,hr,hR,pp,s,e1,e2,h1,h2,e3⟩:=h
 refine (do_up s rfl rfl A.o ta tn tc W (fun No q=>actX rfl hA ha y6 No q) AN e3 da pa dn dc pn pc hD hP).mono ?_
 rintro e w' ⟨h3,rfl,s2⟩
 exact ⟨rfl,.up h3 (stepM M A.o.o) hS S hr hR pp s2 (by rw [e1]) e2 h1 (by omega)⟩
theorem do_down_law (h:LwS w0 w b bx c AP LP X none vp E k) (o:OpP) (ta:Option Addr) (tn tc:Nat) :
  Calls Tryz.prog 10 #[.pointer (some ⟨b,0,none⟩),.agg #[.int .i64 o.kind,.int .i64 o.pid,.int .i64 o.at_,.int .i64 o.n,.int .i64 o.prot,.slice ta tn tc],.agg #[.int .i64 8,.int .i64 0,.slice none 0 0,.slice none 0 0]] w fun e w'=>e = .returned (.int .i64 0)∧LwS w0 w' b bx c AP LP X none vp E (k+1):=by
 obtain ⟨PS,lv,sv,ep,pd,db,hR,s,hp,_,_,_,_,hn,_⟩:=h.pt
 obtain rfl:=hn rfl
 refine (do_down (s.du hp) o ta tn tc).mono ?_
 rintro e w' ⟨rfl,hb⟩
 exact ⟨rfl,(h.below hb).go (fun _ e s=>by rw [setSame e];exact s) (Nat.le_succ _)⟩
/-- The document's machine is twinned for the checkpoint. -/
def TpS (w0 w:World) (b bx:Nat) (c:Cf) (AP LP X:Pty) (m mp:Nat) (E:Int) (k:Nat):Prop:=
 ∃ (hL:McH) (M:Mc) (hS:McH) (S:Mc) (hr hR hq:RmH),
  Ptys w0 w [duP b c (some hL.m) (some hS.m) E none false,mcP hL M,mcP hS S,emP,rmP hr M,rmP hR S,rmP hq M,bxP bx hR,AP,LP,X] []∧m=hr.m∧mp=hq.m∧1≤E∧E≤(k:Int)+1
theorem twin_pend {m:Nat} (h:LwS w0 w b bx c AP LP X (some m) none E k) :
  Calls Tryz.prog 8 #[.pointer (some ⟨m,0,none⟩)] w fun e w'=>∃ mp,e = .returned (.pointer (some ⟨mp,0,none⟩))∧TpS w0 w' b bx c AP LP X m mp E k:=by
 cases h with
 | up hL M hS S hr hR pp s e1 e2 h1 h2=>
  injection e1 with e1
  subst e1
  cases pp with
  | some p=>cases e2
  | none=>
   refine (s.putTwinR 4 6 rfl rfl).mono ?_
   rintro e w' ⟨hq,rfl,s2,_⟩
   exact ⟨hq.m,rfl,hL,M,hS,S,hr,hR,hq,s2,rfl,rfl,h1,h2⟩
 | off hS S hR s e1=>cases e1
 | dS hS S hP P hR s e1=>cases e1
 | dP hS S hP P hR ep s e1=>cases e1
theorem begin_law {m mp:Nat} (h:TpS w0 w b bx c AP LP X m mp E k) :
  Calls Tryz.prog 11 #[.pointer (some ⟨b,0,none⟩),.int .i64 0] w fun e w'=>e = .returned (.int .i64 0)∧LwS w0 w' b bx c AP LP X (some m) (some mp) E (k+1):=by
 obtain ⟨hL,M,hS,S,hr,hR,hq,s,rfl,rfl,h1,h2⟩:=h
 refine (begin_new s rfl rfl rfl).mono ?_
 rintro e w' ⟨hP,rfl,s2⟩
 exact ⟨rfl,.up hL M hS S hr hR (some (hP,hq,M)) s2 rfl rfl h1 (by omega)⟩
theorem begin_more_law {m mp:Nat} (h:LwS w0 w b bx c AP LP X (some m) (some mp) E k) :
  Calls Tryz.prog 11 #[.pointer (some ⟨b,0,none⟩),.int .i64 9] w fun e w'=>e = .returned (.int .i64 0)∧w=w':=by
 cases h with
 | up hL M hS S hr hR pp s e1 e2 h1 h2=>
  cases pp with
  | none=>cases e2
  | some p=>exact begin_more (s.du (i:=0) rfl)
 | off hS S hR s e1=>cases e1
 | dS hS S hP P hR s e1=>cases e1
 | dP hS S hP P hR ep s e1=>cases e1
theorem commit_not_law {m:Nat} (h:LwS w0 w b bx c AP LP X (some m) vp E k) :
  Calls Tryz.prog 12 #[.pointer (some ⟨b,0,none⟩),.int .i64 9,.int .u64 0,.bool false] w fun e w'=>e = .returned (.int .i64 0)∧w=w':=by
 cases h with
 | up hL M hS S hr hR pp s e1 e2 h1 h2=>exact commit_not (s.du (i:=0) rfl)
 | off hS S hR s e1=>cases e1
 | dS hS S hP P hR s e1=>cases e1
 | dP hS S hP P hR ep s e1=>cases e1
/-- The power went in the commit. -/
def LcS (w0 w:World) (b bx:Nat) (c:Cf) (AP LP X:Pty) (mp:Nat) (E:Int) (k:Nat):Prop:=
 ∃ (hL:McH) (M:Mc) (hS:McH) (S:Mc) (hP:McH) (P:Mc) (hr hR hq:RmH),
  Ptys w0 w [duP b c none (some hS.m) E (some hP.m) true,mcP hL M,mcP hS S,mcP hP P,rmP hr M,rmP hR S,rmP hq P,bxP bx hR,AP,LP,X] []∧mp=hq.m∧1≤E∧E≤(k:Int)+1
theorem cut_commit_law {m mp:Nat} (h:LwS w0 w b bx c AP LP X (some m) (some mp) E k) :
  Calls Tryz.prog 12 #[.pointer (some ⟨b,0,none⟩),.int .i64 8,.int .u64 0,.bool true] w fun e w'=>e = .returned (.int .i64 0)∧LcS w0 w' b bx c AP LP X mp E k:=by
 cases h with
 | up hL M hS S hr hR pp s e1 e2 h1 h2=>
  cases pp with
  | none=>cases e2
  | some p=>
   obtain ⟨hP,hq,P⟩:=p
   injection e2 with e2
   refine (commit_cut (s.du (i:=0) rfl)).mono ?_
   rintro e w' ⟨rfl,d,t⟩
   exact ⟨rfl,hL,M,hS,S,hP,P,hr,hR,hq,s.turn 0 rfl t d.row,e2,h1,h2⟩
 | off hS S hR s e1=>cases e1
 | dS hS S hP P hR s e1=>cases e1
 | dP hS S hP P hR ep s e1=>cases e1
theorem LcS.box {mp:Nat} (h:LcS w0 w b bx c AP LP X mp E k):∃ m,w.cell? ⟨bx,0,none⟩=some (.pointer (some ⟨m,0,none⟩))∧w.frozen? ⟨bx,0,none⟩=false:=by
 obtain ⟨hL,M,hS,S,hP,P,hr,hR,hq,s,_⟩:=h
 exact ⟨hR.m,(cell_of_row w bx 0 _ _ _ (s.row (i:=7) rfl)).trans rfl,frozen_of_row w bx 0 _ _ (s.row (i:=7) rfl)⟩
theorem LcS.unlucky {mp:Nat} (h:LcS w0 w b bx c AP LP X mp E k):LwS w0 w b bx c AP LP X none none E (k+1):=by
 obtain ⟨hL,M,hS,S,hP,P,hr,hR,hq,s,e,h1,h2⟩:=h
 exact .dS hS S hP P hR (((s.drop 1).drop 4).drop 6) rfl rfl h1 (by omega)
theorem LcS.lucky {mp:Nat} (h:LcS w0 w b bx c AP LP X mp E k):LwS w0 (w.setCell ⟨bx,0,none⟩ (.pointer (some ⟨mp,0,none⟩))) b bx c AP LP X none none (E+1) (k+1):=by
 obtain ⟨hL,M,hS,S,hP,P,hr,hR,hq,s,rfl,h1,h2⟩:=h
 have r:=s.row (i:=7) rfl
 have s2:=s.turn 7 rfl (tn_set w bx 0 (.pointer (some ⟨hq.m,0,none⟩))) (heap_setCell_same w bx 0 _ _ _ r)
 exact .dP hS S hP P hq E ((((s2.drop 1).drop 4).move 6 5 rfl)) rfl rfl rfl h1 (by omega)
/-- The document's epoch is written, the doubt's not yet. -/
def CpS (w0 w:World) (b bx:Nat) (c:Cf) (AP LP X:Pty) (m:Nat) (E:Int) (k:Nat):Prop:=
 ∃ (hL:McH) (M:Mc) (hS:McH) (S:Mc) (hP:McH) (P:Mc) (hr hq:RmH),
  Ptys w0 w [duP b c (some hL.m) (some hS.m) E (some hP.m) false,mcP hL M,mcP hS S,mcP hP P,rmP hr M,rmP hq P,emP,bxP bx hq,AP,LP,X] []∧m=hr.m∧1≤E∧E≤(k:Int)+1
theorem LwS.cp {m mp:Nat} (h:LwS w0 w b bx c AP LP X (some m) (some mp) E k):CpS w0 (w.setCell ⟨bx,0,none⟩ (.pointer (some ⟨mp,0,none⟩))) b bx c AP LP X m E k:=by
 cases h with
 | up hL M hS S hr hR pp s e1 e2 h1 h2=>
  cases pp with
  | none=>cases e2
  | some p=>
   obtain ⟨hP,hq,P⟩:=p
   injection e1 with e1
   injection e2 with e2
   subst e1 e2
   have r:=s.row (i:=7) rfl
   have s2:=s.turn 7 rfl (tn_set w bx 0 (.pointer (some ⟨hq.m,0,none⟩))) (heap_setCell_same w bx 0 _ _ _ r)
   exact ⟨hL,M,hS,S,hP,P,hr,hq,s2.move 6 5 rfl,rfl,h1,h2⟩
 | off hS S hR s e1=>cases e1
 | dS hS S hP P hR s e1=>cases e1
 | dP hS S hP P hR ep s e1=>cases e1
theorem commit_law {m:Nat} (h:CpS w0 w b bx c AP LP X m E k) (hk:k≤1000) :
  Calls Tryz.prog 12 #[.pointer (some ⟨b,0,none⟩),.int .i64 0,.int .u64 (E+1),.bool false] w fun e w'=>e = .returned (.int .i64 0)∧LwS w0 w' b bx c AP LP X (some m) none (E+1) (k+1):=by
 obtain ⟨hL,M,hS,S,hP,P,hr,hq,s,rfl,h1,h2⟩:=h
 refine (commit_ok (s.du (i:=0) rfl) ⟨by omega,by omega⟩).mono ?_
 rintro e w' ⟨rfl,d,t⟩
 have s2:=s.turn 0 rfl t d.row
 exact ⟨rfl,.up hL M hP P hr hq none (s2.move 3 2 rfl) rfl rfl (by omega) (by omega)⟩
/-- Down, with all that the next boot needs. -/
inductive CutS (w0 w:World) (b bx:Nat) (c:Cf) (AP LP X:Pty) (E:Int) (k:Nat):Prop
 | sv (hS:McH) (S:Mc) (hR:RmH) (P1 P3 P4 P6:Pty) (pd:Option Nat) (db:Bool)
   (s:Ptys w0 w [duP b c none (some hS.m) E pd db,P1,mcP hS S,P3,P4,rmP hR S,P6,bxP bx hR,AP,LP,X] []) (h1:1≤E) (h2:E≤(k:Int)+1)
 | pd (sv:Option Nat) (hP:McH) (P:Mc) (hR:RmH) (P1 P2 P4 P6:Pty) (ep:Int)
   (s:Ptys w0 w [duP b c none sv ep (some hP.m) true,P1,P2,mcP hP P,P4,rmP hR P,P6,bxP bx hR,AP,LP,X] []) (e3:E=ep+1) (h1:1≤ep) (h2:E≤(k:Int)+1)
theorem cut_law (h:LwS w0 w b bx c AP LP X vl vp E k) :
  Calls Tryz.prog 13 #[.pointer (some ⟨b,0,none⟩)] w fun e w'=>e = .returned (.tuple #[])∧CutS w0 w' b bx c AP LP X E k:=by
 cases h with
 | up hL M hS S hr hR pp s e1 e2 h1 h2=>
  refine (cut_off (s.du (i:=0) rfl)).mono ?_
  rintro e w' ⟨rfl,d,t⟩
  exact ⟨rfl,.sv hS S hR _ _ _ _ none false (s.turn 0 rfl t d.row) h1 h2⟩
 | off hS S hR s e1 e2 h1 h2=>
  refine (cut_off (s.du (i:=0) rfl)).mono ?_
  rintro e w' ⟨rfl,d,t⟩
  exact ⟨rfl,.sv hS S hR _ _ _ _ none false (s.turn 0 rfl t d.row) h1 h2⟩
 | dS hS S hP P hR s e1 e2 h1 h2=>
  refine (cut_on (s.du (i:=0) rfl)).mono ?_
  rintro e w' ⟨rfl,d,t⟩
  exact ⟨rfl,.sv hS S hR _ _ _ _ (some hP.m) true (s.turn 0 rfl t d.row) h1 h2⟩
 | dP hS S hP P hR ep s e1 e2 e3 h1 h2=>
  refine (cut_on (s.du (i:=0) rfl)).mono ?_
  rintro e w' ⟨rfl,d,t⟩
  exact ⟨rfl,.pd (some hS.m) hP P hR _ _ _ _ ep (s.turn 0 rfl t d.row) e3 h1 h2⟩
/-- The saved machine is twinned: it lives. -/
inductive BtS (w0 w:World) (b bx:Nat) (c:Cf) (AP LP X:Pty) (m:Nat) (E:Int) (k:Nat):Prop
 | sv (hS:McH) (S:Mc) (hr hR:RmH) (P1 P3 P6:Pty) (pd:Option Nat) (db:Bool)
   (s:Ptys w0 w [duP b c none (some hS.m) E pd db,P1,mcP hS S,P3,rmP hr S,rmP hR S,P6,bxP bx hR,AP,LP,X] []) (e1:m=hr.m) (h1:1≤E) (h2:E≤(k:Int)+1)
 | pd (sv:Option Nat) (hP:McH) (P:Mc) (hr hR:RmH) (P1 P2 P6:Pty) (ep:Int)
   (s:Ptys w0 w [duP b c none sv ep (some hP.m) true,P1,P2,mcP hP P,rmP hr P,rmP hR P,P6,bxP bx hR,AP,LP,X] []) (e1:m=hr.m) (e3:E=ep+1) (h1:1≤ep) (h2:E≤(k:Int)+1)
theorem twin_cut (h:CutS w0 w b bx c AP LP X E k):∃ mR,w.cell? ⟨bx,0,none⟩=some (.pointer (some ⟨mR,0,none⟩)) ∧
  Calls Tryz.prog 8 #[.pointer (some ⟨mR,0,none⟩)] w fun e w'=>∃ m,e = .returned (.pointer (some ⟨m,0,none⟩))∧BtS w0 w' b bx c AP LP X m E k:=by
 cases h with
 | sv hS S hR P1 P3 P4 P6 pd db s h1 h2=>
  refine ⟨hR.m,(cell_of_row w bx 0 _ _ _ (s.row (i:=7) rfl)).trans rfl,(s.putTwinR 5 4 rfl rfl).mono ?_⟩
  rintro e w' ⟨hr,rfl,s2,_⟩
  exact ⟨hr.m,rfl,.sv hS S hr hR P1 P3 P6 pd db s2 rfl h1 h2⟩
 | pd sv hP P hR P1 P2 P4 P6 ep s e3 h1 h2=>
  refine ⟨hR.m,(cell_of_row w bx 0 _ _ _ (s.row (i:=7) rfl)).trans rfl,(s.putTwinR 5 4 rfl rfl).mono ?_⟩
  rintro e w' ⟨hr,rfl,s2,_⟩
  exact ⟨hr.m,rfl,.pd sv hP P hr hR P1 P2 P6 ep s2 rfl e3 h1 h2⟩
theorem BtS.below {m:Nat} (h:BtS w0 w b bx c AP LP X m E k) (hb:Below w.heap.size w w'):BtS w0 w' b bx c AP LP X m E k:=by
 cases h with
 | sv hS S hr hR P1 P3 P6 pd db s e1 h1 h2=>exact .sv hS S hr hR P1 P3 P6 pd db (s.below hb) e1 h1 h2
 | pd sv hP P hr hR P1 P2 P6 ep s e1 e3 h1 h2=>exact .pd sv hP P hr hR P1 P2 P6 ep (s.below hb) e1 e3 h1 h2
theorem boot_step {m:Nat} (h:BtS w0 w b bx c AP LP X m E k) (hk:k≤1000) :
  Calls Tryz.prog 14 #[.pointer (some ⟨b,0,none⟩),.int .i64 0,.int .u64 E,.bool false,.func (.func 15) #[] #[.pointer (some ⟨bx,0,none⟩)]] w fun e w'=>e = .returned (.int .i64 0)∧LwS w0 w' b bx c AP LP X (some m) none E (k+1):=by
 cases h with
 | sv hS S hr hR P1 P3 P6 pd db s e1 h1 h2=>
  refine (boot_law s rfl (iM:=2) rfl rfl E ⟨by omega,by omega⟩ (.inl ⟨rfl,rfl⟩) bx (fun w2 hb=>see_law s (iM:=2) rfl rfl rfl w2 hb)).mono ?_
  rintro e w' ⟨h8,rfl,s2⟩
  exact ⟨rfl,.up h8 S hS S hr hR none ((s2.drop 3).drop 6) (by rw [e1]) rfl h1 (by omega)⟩
 | pd sv hP P hr hR P1 P2 P6 ep s e1 e3 h1 h2=>
  refine (boot_law s rfl (iM:=3) rfl rfl E ⟨by omega,by omega⟩ (.inr ⟨e3,rfl,rfl⟩) bx (fun w2 hb=>see_law s (iM:=3) rfl rfl rfl w2 hb)).mono ?_
  rintro e w' ⟨h8,rfl,s2⟩
  exact ⟨rfl,.up h8 P hP P hr hR none ((s2.move 3 2 rfl).drop 6) (by rw [e1]) rfl (by omega) (by omega)⟩
theorem doubt_law {m:Nat} (h:LwS w0 w b bx c AP LP X (some m) vp E k) :
  Calls Tryz.prog 17 #[.pointer (some ⟨b,0,none⟩)] w fun e w'=>e = .returned (.bool false)∧w=w':=by
 cases h with
 | up hL M hS S hr hR pp s e1 e2 h1 h2=>exact doubt_any (s.du (i:=0) rfl)
 | off hS S hR s e1=>cases e1
 | dS hS S hP P hR s e1=>cases e1
 | dP hS S hP P hR ep s e1=>cases e1
end
theorem ov_none:ov none = .pointer none:=rfl
theorem ov_some (m:Nat):ov (some m) = .pointer (some ⟨m,0,none⟩):=rfl
set_option maxHeartbeats 4000000 in
theorem doubtHonest_walk (c:Cf) (a1:Option Addr) (n1 c1:Nat) (L:List ActP) (a2:Option Addr) (n2 c2:Nat) (B:List Bool) (w:World) (h1:ActsAt w a1 n1 L) (hs:sumAct L+n1≤1048576) (h2:RdB w a2 n2 c2 B) :
  Calls Tryz.prog 3 #[c.val,.slice a1 n1 c1,.slice a2 n2 c2] w fun e w'=>e = .returned (.bool true)∧Below w.heap.size w w':=by
 have hrow:=heap_alloc_new w (.cells #[.int .i64 c.a0,.int .i64 c.a1,.int .i64 c.a2,.int .i64 c.a3,.int .i64 c.page,.int .i64 c.a5,.int .i64 c.procs,.int .i64 c.regions,.int .i64 c.pages] 23)
 have hb0:=below_a w (.cells #[.int .i64 c.a0,.int .i64 c.a1,.int .i64 c.a2,.int .i64 c.a3,.int .i64 c.page,.int .i64 c.a5,.int .i64 c.procs,.int .i64 c.regions,.int .i64 c.pages] 23)
 obtain ⟨y0,y1,y2,y3,y4,y5,y6,y7,y8⟩:=cells9 hrow
 obtain ⟨wA,hwA⟩:∃ y,w.alloc (.cells #[.int .i64 c.a0,.int .i64 c.a1,.int .i64 c.a2,.int .i64 c.a3,.int .i64 c.page,.int .i64 c.a5,.int .i64 c.procs,.int .i64 c.regions,.int .i64 c.pages] 23)=y:=⟨_,rfl⟩
 rw [hwA] at hrow hb0 y0 y1 y2 y3 y4 y5 y6 y7 y8;have HWA:=Lib.hid hwA;have HB:=Lib.hid hb0;have HA:=Lib.hid h1;have HL:=Lib.hid h2;have HS:=Lib.hid hs
 have hn1:n1≤1048576:=by omega
 have HN1:=Lib.hid hn1;clear hrow hb0 hwA h1 h2 hs hn1
 unfold Cf.val
 go_enter Tryz.func3,Tryz.ntmps3
 go_wp2_with (rw [HWA.out])
 refine (known25 wA).mono ?_
 rintro e wB ⟨rfl,hb1⟩
 replace y0:=cel0 hb1 y0;replace y1:=cel0 hb1 y1;replace y2:=cel0 hb1 y2;replace y3:=cel0 hb1 y3;replace y4:=cel0 hb1 y4;replace y5:=cel0 hb1 y5;replace y6:=cel0 hb1 y6;replace y7:=cel0 hb1 y7;replace y8:=cel0 hb1 y8
 have HB1:=Lib.hid (HB.out.trans (hb1.mono HB.out.size))
 clear hb1;go_wp2_with fail
 refine (few25_any a1 n1 c1 L wB (HA.out.below HB1.out) HN1.out (by have:=HS.out;omega)).mono ?_
 rintro e wC ⟨FW,rfl,hfw,hb2⟩
 replace y0:=cel0 hb2 y0;replace y1:=cel0 hb2 y1;replace y2:=cel0 hb2 y2;replace y3:=cel0 hb2 y3;replace y4:=cel0 hb2 y4;replace y5:=cel0 hb2 y5;replace y6:=cel0 hb2 y6;replace y7:=cel0 hb2 y7;replace y8:=cel0 hb2 y8
 have HB2:=Lib.hid (HB1.out.trans (hb2.mono HB1.out.size))
 have HFW:=Lib.hid hfw;clear hb2 hfw HB1
 cases FW with
 | false=>
  go_wp2_with fail
  go_ret
  exact ⟨rfl,HB2.out⟩
 | true=>
  by_cases hn2:500 < n2
  ·have dn:decide ((500:Int) < (n2:Int))=true:=decide_eq_true (by omega)
   go_wp2_with fail
   go_ret
   exact ⟨rfl,HB2.out⟩
  ·have dn:decide ((500:Int) < (n2:Int))=false:=decide_eq_false (by omega)
   go_wp2_with fail
   by_cases hc:CfOk c
   ·have hcn:=dnew_yes (w:=wC) hc
    unfold Cf.val at hcn
    refine hcn.mono ?_
    rintro e wD ⟨b,k1,k2,rfl,d⟩
    have HD:=Lib.hid d
    have hb3:=d.bel
    replace y0:=cel0 hb3 y0;replace y1:=cel0 hb3 y1;replace y2:=cel0 hb3 y2;replace y3:=cel0 hb3 y3;replace y4:=cel0 hb3 y4;replace y5:=cel0 hb3 y5;replace y6:=cel0 hb3 y6;replace y7:=cel0 hb3 y7;replace y8:=cel0 hb3 y8;clear d hcn;go_wp2_with fail
    have hrn:=rnew18_yes (w:=wD) (c:=c) hc
    unfold Cf.val at hrn
    refine hrn.mono ?_
    rintro e wE ⟨hr,rfl,r,ho,hm,hb4⟩
    have HP:=Lib.hid (law_start HB2.out HD.out hb4 r ho hm HA.out HL.out)
    replace y4:=cel0 hb4 y4;clear hrn r ho hm hb4 hb3 y0 y1 y2 y3 y5 y6 y7 y8
    by_cases hpg:512 < c.page
    ·have dp:decide ((512:Int) < c.page)=true:=decide_eq_true hpg
     go_wp2_with fail
     go_ret
     exact ⟨rfl,HP.out.bel⟩
    ·have dp:decide ((512:Int) < c.page)=false:=decide_eq_false hpg
     go_wp2_with fail
     refine (HP.out.putTwinR 4 5 rfl rfl).mono ?_
     rintro e wF ⟨hR,rfl,s6,hb6⟩
     have S6:Hid (Ptys w wF [duP b c (some k1.m) (some k2.m) 1 none false,mcP k1 (mc0 c),mcP k2 (mc0 c),emP,rmP hr (mc0 c),rmP hR (mc0 c),emP,emP,actsP a1 n1 L,luckP a2 n2 c2 B] []):=s6
     clear s6 hb6 y4
     have hnew:=heap_alloc_new wF (.cells #[.pointer (some ⟨hR.m,0,none⟩)] 32)
     have hbn:=below_a wF (.cells #[.pointer (some ⟨hR.m,0,none⟩)] 32)
     obtain ⟨wG,hwG⟩:∃ y,wF.alloc (.cells #[.pointer (some ⟨hR.m,0,none⟩)] 32)=y:=⟨_,rfl⟩
     have HWG:=Lib.hid hwG;rw [hwG] at hnew hbn
     obtain ⟨bx,hbx⟩:∃ y,wF.heap.size=y:=⟨_,rfl⟩
     have s7:=(S6.out.newRow 7 rfl hbn hnew (Nat.le_refl _)).addEm
     rw [hbx] at s7
     have S7:Hid (LwS w wG b bx c (actsP a1 n1 L) (luckP a2 n2 c2 B) emP (some hr.m) none 1 0):=.up k1 (mc0 c) k2 (mc0 c) hr hR none s7 rfl rfl (by omega) (by omega)
     clear s7 hbn hnew hwG S6
     go_wp2_with (rw [HWG.out])
     have hlen:L.length=n1:=acts_len S7.out
     have hn120:n1≤120:=HFW.out (by trivial)
     clear HWG HB2 HA HL HD HP HFW hbx
     go_loopw [9,12,13,14] (fun l p e i wr=>∃ (vl vp:Option Nat) (E:Int) (k:Nat),k≤n1∧l=ov vl∧p=ov vp∧e = .int .u64 E∧i = .int .i64 k∧Hid (LwS w wr b bx c (actsP a1 n1 L) (luckP a2 n2 c2 B) emP vl vp E k)) (fun _ _ _ i _=>n1 - (intOf i).toNat)
     case atStart=>exact ⟨some hr.m,none,1,0,by omega,rfl,rfl,rfl,rfl,S7⟩
     case round=>
      clear S7
      obtain ⟨vl,vp,E,k,hk,rfl,rfl,rfl,rfl,HX⟩:=hrel
      by_cases hkn:k < n1
      ·have dk:decide ((k:Int) < (n1:Int))=true:=decide_eq_true (by omega)
       obtain ⟨A,hA⟩:∃ A,L[k]?=some A:=⟨_,List.getElem?_eq_getElem (by omega)⟩
       obtain ⟨ab,ao,a6,n6,c6,ha,⟨y0,y1,y2,y3,y4,y5,y6,y15⟩,W⟩:=HX.out.act hA
       subst ha;have HW:=Lib.hid W;have HAA:=Lib.hid hA;clear W hA
       obtain ⟨kd,hkd⟩:∃ x,A.kind=x:=⟨_,rfl⟩
       rw [hkd] at y0;clear hkd
       have hE1:1≤E∧E≤(k:Int)+1:=HX.out.ep
       have hE0:IntKind.u64.wrap (E+1)=E+1:=by unfold IntKind.wrap;simp [IntKind.bits];omega
       go_upto_region 17 with fail
       go_cut [15] from 58 to 174 (fun z wc=>∃ lk,z = .bool lk∧wr=wc)
       case first=>
        by_cases hk2:k < n2
        ·have dl:decide ((k:Int) < (n2:Int))=true:=decide_eq_true (by omega)
         obtain ⟨lb,lo,hl1,hl2⟩:=HX.out.luck.cell k hk2
         subst hl1;go_wp2_with fail
         go_meet
         exact ⟨_,rfl,rfl⟩
        ·have dl:decide ((k:Int) < (n2:Int))=false:=decide_eq_false (by omega)
         go_wp2_with fail
         go_meet
         exact ⟨_,rfl,rfl⟩
       case rest=>
        obtain ⟨lk,rfl,rfl⟩:=hcut
        by_cases e1:kd=1
        ·subst e1
         have hbn:=below_a wr (.cells #[.int .i64 8,.int .i64 0,.slice none 0 0,.slice none 0 0] 42)
         have hnew:=heap_alloc_new wr (.cells #[.int .i64 8,.int .i64 0,.slice none 0 0,.slice none 0 0] 42)
         obtain ⟨wN,hwN⟩:∃ y,wr.alloc (.cells #[.int .i64 8,.int .i64 0,.slice none 0 0,.slice none 0 0] 42)=y:=⟨_,rfl⟩
         have HWN:=Lib.hid hwN;rw [hwN] at hbn hnew
         have H1:=Lib.hid (HX.out.newX hbn hnew (Nat.le_refl _))
         have HNEW:=Lib.hid hnew;replace y1:=cel0 hbn y1;replace y2:=cel0 hbn y2;replace y3:=cel0 hbn y3;replace y4:=cel0 hbn y4;replace y5:=cel0 hbn y5;replace y6:=cel0 hbn y6;clear hbn hwN y15 HX
         cases vl with
         | none=>
          simp only [ov_none,ov_some]
          have i5:=And.intro (cel0 (Below.refl _ _).drew y1) (And.intro (cel0 (Below.refl _ _).drew y2) (And.intro (cel0 (Below.refl _ _).drew y3) (And.intro (cel0 (Below.refl _ _).drew y4) (And.intro (cel0 (Below.refl _ _).drew y5) (cel0 (Below.refl _ _).drew y6)))))
          have i6:=row_keep hnew (Below.refl _ _).drew
          have i7:=H1.out.below (Below.refl _ _).drew
          clear hnew y1 y2 y3 y4 y5 y6
          go_wp2_with (rw [HWN.out])
          refine' reg_order [eqV _,eqV _,eqV _,eqV _,eqV _,eqV _,eqV _,(fun v w5=>v=Value.int .i64 0∧LwS w w5 b bx c (actsP (some ⟨ab,ao,none⟩) n1 L) (luckP a2 n2 c2 B) (blkP wr.heap.size #[.int .i64 8,.int .i64 0,.slice none 0 0,.slice none 0 0] 42) none vp E (k+1)),eqV _] [(7,fun _ _=>True)] [(5,fun w5=>w5.cell? ⟨ab,ao+k * 17+1,none⟩=some (.int .i64 A.o.kind)∧w5.cell? ⟨ab,ao+k * 17+2,none⟩=some (.int .i64 A.o.pid)∧w5.cell? ⟨ab,ao+k * 17+3,none⟩=some (.int .i64 A.o.at_)∧w5.cell? ⟨ab,ao+k * 17+4,none⟩=some (.int .i64 A.o.n)∧w5.cell? ⟨ab,ao+k * 17+5,none⟩=some (.int .i64 A.o.prot)∧w5.cell? ⟨ab,ao+k * 17+6,none⟩=some (.slice a6 n6 c6)),(6,fun w5=>w5.heap[wr.heap.size]?=some (.cells #[.int .i64 8,.int .i64 0,.slice none 0 0,.slice none 0 0] 42 (0,0))),(7,fun w5=>LwS w w5 b bx c (actsP (some ⟨ab,ao,none⟩) n1 L) (luckP a2 n2 c2 B) (blkP wr.heap.size #[.int .i64 8,.int .i64 0,.slice none 0 0,.slice none 0 0] 42) none vp E k)] [117,118,119,120,121,122,123,124,125] [[],[],[],[1,2],[3],[4],[],[0,5,6],[7]] [0,1,2,3,4,5,6,7,8] 9 (by kernel_rfl) ⟨eS _,eS _,eS _,eS _,eS _,eS _,eS _,fun _ _ _ p g=>⟨p.1,p.2.below g⟩,eS _,trivial⟩ ⟨⟨.inl (eS _),.inl (eS _),.inl (eS _),.inl (eS _),.inl (eS _),.inl (eS _),.inl (eS _),.inr (.inr rfl),.inl (eS _),trivial⟩,trivial⟩ ⟨fun _ _ p g=>⟨cel0 g p.1,cel0 g p.2.1,cel0 g p.2.2.1,cel0 g p.2.2.2.1,cel0 g p.2.2.2.2.1,cel0 g p.2.2.2.2.2⟩,fun _ _ p g=>row_keep p g,fun _ _ p g=>p.below g,trivial⟩ ⟨⟨.inr (.inl (by kernel_rfl)),.inr (.inl (by kernel_rfl)),.inr (.inr rfl),trivial⟩,trivial⟩ ⟨i5,i6,i7,trivial⟩ 182 rfl (by kernel_rfl) (by kernel_rfl) rfl rfl 9 rfl ?q1obl ?q1fin
          case q1obl=>
           refine ⟨?q1o0,?q1o1,?q1o2,?q1o3,?q1o4,?q1o5,?q1o6,?q1o7,?q1o8,trivial⟩
           case q1o0 | q1o1 | q1o2=>
            intro w1 hI;refine t2o (by rfl) ?_;intro K hK;go_simp;refine hK _ _ ⟨rfl,Kept.refl _,?_⟩;show _=_;simp only [gv1];rfl
           case q1o3=>
            intro w1 hI;intro va ha;change _=_ at ha;subst va;intro vb hb;change _=_ at hb;subst vb;refine t2o (by rfl) ?_;intro K hK;simp only [gv2];go_simp;refine hK _ _ ⟨rfl,Kept.refl _,?_⟩;show _=_;simp only [gv1];rfl
           case q1o4=>
            intro w1 hI;intro va ha;change _=_ at ha;subst va;refine t2o (by rfl) ?_;intro K hK;simp only [gv2];go_simp;refine hK _ _ ⟨rfl,Kept.refl _,?_⟩;show _=_;simp only [gv1];rfl
           case q1o5=>
            intro w1 hI
            replace hI:(fun w5=>w5.cell? ⟨ab,ao+k * 17+1,none⟩=some (.int .i64 A.o.kind)∧w5.cell? ⟨ab,ao+k * 17+2,none⟩=some (.int .i64 A.o.pid)∧w5.cell? ⟨ab,ao+k * 17+3,none⟩=some (.int .i64 A.o.at_)∧w5.cell? ⟨ab,ao+k * 17+4,none⟩=some (.int .i64 A.o.n)∧w5.cell? ⟨ab,ao+k * 17+5,none⟩=some (.int .i64 A.o.prot)∧w5.cell? ⟨ab,ao+k * 17+6,none⟩=some (.slice a6 n6 c6)) w1:=hI
            intro v4 h4;change _=_ at h4;subst v4;refine t2o (by rfl) ?_;intro K hK;simp only [gv2]
            obtain ⟨z1,z2,z3,z4,z5,z6⟩:=hI
            go_simp;refine hK _ _ ⟨rfl,Kept.refl _,?_⟩;show _=_;simp only [gv1];rfl
           case q1o6=>
            intro w1 hI
            replace hI:(fun w5=>w5.heap[wr.heap.size]?=some (.cells #[.int .i64 8,.int .i64 0,.slice none 0 0,.slice none 0 0] 42 (0,0))) w1:=hI
            refine t2o (by rfl) ?_;intro K hK
            obtain ⟨z0,z1,z2,z3⟩:=cells4a hI
            go_simp;refine hK _ _ ⟨rfl,Kept.refl _,?_⟩;show _=_;simp only [gv1];rfl
           case q1o7=>
            intro w1 hI
            replace hI:(fun w5=>LwS w w5 b bx c (actsP (some ⟨ab,ao,none⟩) n1 L) (luckP a2 n2 c2 B) (blkP wr.heap.size #[.int .i64 8,.int .i64 0,.slice none 0 0,.slice none 0 0] 42) none vp E k) w1:=hI
            intro v0 h0;change _=_ at h0;subst v0;intro v5 h5;change _=_ at h5;subst v5;intro v6 h6;change _=_ at h6;subst v6;refine t2o (by rfl) ?_;intro K hK;simp only [gv2];go_simp
            refine Calls.mono (do_down_law (hI:LwS w w1 b bx c (actsP (some ⟨ab,ao,none⟩) n1 L) (luckP a2 n2 c2 B) (blkP wr.heap.size #[.int .i64 8,.int .i64 0,.slice none 0 0,.slice none 0 0] 42) none vp E k) A.o a6 n6 c6) ?_
            rintro e w9 ⟨rfl,q9⟩
            refine hK _ _ ⟨rfl,trivial,?_⟩
            exact ⟨rfl,q9⟩
           case q1o8=>
            intro w1 hI;intro v7 h7
            obtain ⟨rfl,g7⟩:=h7
            refine t2o (by rfl) ?_;intro K hK;simp only [gv2];go_simp;refine hK _ _ ⟨rfl,Kept.refl _,?_⟩;show _=_;simp only [gv1];rfl
          intro w7 hI;intro v0 h0;change _=_ at h0;subst v0;intro v1 h1;change _=_ at h1;subst v1;intro v2 h2;change _=_ at h2;subst v2;intro v3 h3;change _=_ at h3;subst v3;intro v4 h4;change _=_ at h4;subst v4;intro v5 h5;change _=_ at h5;subst v5;intro v6 h6;change _=_ at h6;subst v6;intro v7 h7
          obtain ⟨rfl,g7⟩:=h7
          intro v8 h8;change _=_ at h8;subst v8
          simp only [Given,gv2]
          have G7:=Lib.hid (g7.go (fun _ _ s=>s.drop 10) (Nat.le_refl _))
          clear g7 i5 i6 i7;go_wp2_with fail
          go_roundw
          case rel=>exact ⟨none,vp,E,k+1,by omega,rfl,rfl,rfl,by go_num,G7⟩
          case measure=>simp [intOf] <;> omega
         | some m0=>
          simp only [ov_none,ov_some]
          have hsz:=(Array.getElem?_eq_some_iff.1 hnew).1
          clear hnew
          go_wp2_with (rw [HWN.out])
          refine (rdo_law H1.out HAA.out rfl y6 HW.out).mono ?_
          rintro e w2 ⟨AN,da,dc,pa,pc,rfl,r1,r2,f1,f2,q⟩
          obtain ⟨hfr,hrow,hrow2,ht,q2⟩:=ans_store q (.int .i64 AN.err) (.int .i64 AN.pid) (.slice da AN.data.length dc) (.slice pa AN.pids.length pc)
          obtain ⟨z0,z1,z2,z3⟩:=cells4a hrow
          have fz:∀ i,w2.frozen? ⟨wr.heap.size,i,none⟩=false:=fun i=>frozen_of_row w2 wr.heap.size i _ _ hrow
          have fz0:=fz 0
          have fz1:=fz 1
          have fz2:=fz 2
          have fz3:=fz 3
          clear fz hfr;clear y0 y1 y2 y3 y4 y5 y6 HWN H1
          have r1':=r1.tn ht (fun x hx h0 e=>by have:=f1 x hx h0;have e2:x.block=wr.heap.size:=e;omega)
          have r2':=r2.tn ht (fun x hx h0 e=>by have:=f2 x hx h0;have e2:x.block=wr.heap.size:=e;omega)
          go_wp2_with fail
          obtain ⟨wS,hwS⟩:∃ y,((((w2.setCell ⟨wr.heap.size,0,none⟩ (.int .i64 AN.err)).setCell ⟨wr.heap.size,1,none⟩ (.int .i64 AN.pid)).setCell ⟨wr.heap.size,2,none⟩ (.slice da AN.data.length dc)).setCell ⟨wr.heap.size,3,none⟩ (.slice pa AN.pids.length pc))=y:=⟨_,rfl⟩
          rw [hwS] at hrow2 ht q2 r1' r2' ⊢
          obtain ⟨a7,n7,c7,y0,y1,y2,y3,y4,y5,y6⟩:=q2.act HAA.out rfl
          have i5:=And.intro (cel0 (Below.refl _ _).drew y1) (And.intro (cel0 (Below.refl _ _).drew y2) (And.intro (cel0 (Below.refl _ _).drew y3) (And.intro (cel0 (Below.refl _ _).drew y4) (And.intro (cel0 (Below.refl _ _).drew y5) (cel0 (Below.refl _ _).drew y6)))))
          have i6:=row_keep hrow2 (Below.refl _ _).drew
          have i7:=And.intro (q2.below (Below.refl _ _).drew) (And.intro (cel0 (Below.refl _ _).drew y6) (And.intro (r1'.below (Below.refl _ _).drew) (r2'.below (Below.refl _ _).drew)))
          clear hwS hrow hrow2 ht q q2 r1 r2 r1' r2' f1 f2 y0 y1 y2 y3 y4 y5 y6 z0 z1 z2 z3 fz0 fz1 fz2 fz3
          refine' reg_order [eqV _,eqV _,eqV _,eqV _,eqV _,eqV _,eqV _,(fun v w5=>v=Value.int .i64 0∧LwS w w5 b bx c (actsP (some ⟨ab,ao,none⟩) n1 L) (luckP a2 n2 c2 B) (blkP wr.heap.size #[.int .i64 AN.err,.int .i64 AN.pid,.slice da AN.data.length dc,.slice pa AN.pids.length pc] 42) (some m0) vp E (k+1)),eqV _] [(7,fun _ _=>True)] [(5,fun w5=>w5.cell? ⟨ab,ao+k * 17+1,none⟩=some (.int .i64 A.o.kind)∧w5.cell? ⟨ab,ao+k * 17+2,none⟩=some (.int .i64 A.o.pid)∧w5.cell? ⟨ab,ao+k * 17+3,none⟩=some (.int .i64 A.o.at_)∧w5.cell? ⟨ab,ao+k * 17+4,none⟩=some (.int .i64 A.o.n)∧w5.cell? ⟨ab,ao+k * 17+5,none⟩=some (.int .i64 A.o.prot)∧w5.cell? ⟨ab,ao+k * 17+6,none⟩=some (.slice a7 n7 c7)),(6,fun w5=>w5.heap[wr.heap.size]?=some (.cells #[.int .i64 AN.err,.int .i64 AN.pid,.slice da AN.data.length dc,.slice pa AN.pids.length pc] 42 (0,0))),(7,fun w5=>MdS w w5 b bx c (actsP (some ⟨ab,ao,none⟩) n1 L) (luckP a2 n2 c2 B) (blkP wr.heap.size #[.int .i64 AN.err,.int .i64 AN.pid,.slice da AN.data.length dc,.slice pa AN.pids.length pc] 42) m0 vp E k A.o.o AN∧w5.cell? ⟨ab,ao+k * 17+6,none⟩=some (.slice a7 n7 c7)∧RdAt .u8 w5 da AN.data.length dc AN.data∧RdAt .i64 w5 pa AN.pids.length pc AN.pids)] [117,118,119,120,121,122,123,124,125] [[],[],[],[1,2],[3],[4],[],[0,5,6],[7]] [0,1,2,3,4,5,6,7,8] 9 (by kernel_rfl) ⟨eS _,eS _,eS _,eS _,eS _,eS _,eS _,fun _ _ _ p g=>⟨p.1,p.2.below g⟩,eS _,trivial⟩ ⟨⟨.inl (eS _),.inl (eS _),.inl (eS _),.inl (eS _),.inl (eS _),.inl (eS _),.inl (eS _),.inr (.inr rfl),.inl (eS _),trivial⟩,trivial⟩ ⟨fun _ _ p g=>⟨cel0 g p.1,cel0 g p.2.1,cel0 g p.2.2.1,cel0 g p.2.2.2.1,cel0 g p.2.2.2.2.1,cel0 g p.2.2.2.2.2⟩,fun _ _ p g=>row_keep p g,fun _ _ p g=>⟨p.1.below g,cel0 g p.2.1,p.2.2.1.below g,p.2.2.2.below g⟩,trivial⟩ ⟨⟨.inr (.inl (by kernel_rfl)),.inr (.inl (by kernel_rfl)),.inr (.inr rfl),trivial⟩,trivial⟩ ⟨i5,i6,i7,trivial⟩ 182 rfl (by kernel_rfl) (by kernel_rfl) rfl rfl 9 rfl ?q2obl ?q2fin
          case q2obl=>
           refine ⟨?q2o0,?q2o1,?q2o2,?q2o3,?q2o4,?q2o5,?q2o6,?q2o7,?q2o8,trivial⟩
           case q2o0 | q2o1 | q2o2=>
            intro w1 hI;refine t2o (by rfl) ?_;intro K hK;go_simp;refine hK _ _ ⟨rfl,Kept.refl _,?_⟩;show _=_;simp only [gv1];rfl
           case q2o3=>
            intro w1 hI;intro va ha;change _=_ at ha;subst va;intro vb hb;change _=_ at hb;subst vb;refine t2o (by rfl) ?_;intro K hK;simp only [gv2];go_simp;refine hK _ _ ⟨rfl,Kept.refl _,?_⟩;show _=_;simp only [gv1];rfl
           case q2o4=>
            intro w1 hI;intro va ha;change _=_ at ha;subst va;refine t2o (by rfl) ?_;intro K hK;simp only [gv2];go_simp;refine hK _ _ ⟨rfl,Kept.refl _,?_⟩;show _=_;simp only [gv1];rfl
           case q2o5=>
            intro w1 hI
            replace hI:(fun w5=>w5.cell? ⟨ab,ao+k * 17+1,none⟩=some (.int .i64 A.o.kind)∧w5.cell? ⟨ab,ao+k * 17+2,none⟩=some (.int .i64 A.o.pid)∧w5.cell? ⟨ab,ao+k * 17+3,none⟩=some (.int .i64 A.o.at_)∧w5.cell? ⟨ab,ao+k * 17+4,none⟩=some (.int .i64 A.o.n)∧w5.cell? ⟨ab,ao+k * 17+5,none⟩=some (.int .i64 A.o.prot)∧w5.cell? ⟨ab,ao+k * 17+6,none⟩=some (.slice a7 n7 c7)) w1:=hI
            intro v4 h4;change _=_ at h4;subst v4;refine t2o (by rfl) ?_;intro K hK;simp only [gv2]
            obtain ⟨z1,z2,z3,z4,z5,z6⟩:=hI
            go_simp;refine hK _ _ ⟨rfl,Kept.refl _,?_⟩;show _=_;simp only [gv1];rfl
           case q2o6=>
            intro w1 hI
            replace hI:(fun w5=>w5.heap[wr.heap.size]?=some (.cells #[.int .i64 AN.err,.int .i64 AN.pid,.slice da AN.data.length dc,.slice pa AN.pids.length pc] 42 (0,0))) w1:=hI
            refine t2o (by rfl) ?_;intro K hK
            obtain ⟨z0,z1,z2,z3⟩:=cells4a hI
            go_simp;refine hK _ _ ⟨rfl,Kept.refl _,?_⟩;show _=_;simp only [gv1];rfl
           case q2o7=>
            intro w1 hI
            replace hI:(fun w5=>MdS w w5 b bx c (actsP (some ⟨ab,ao,none⟩) n1 L) (luckP a2 n2 c2 B) (blkP wr.heap.size #[.int .i64 AN.err,.int .i64 AN.pid,.slice da AN.data.length dc,.slice pa AN.pids.length pc] 42) m0 vp E k A.o.o AN∧w5.cell? ⟨ab,ao+k * 17+6,none⟩=some (.slice a7 n7 c7)∧RdAt .u8 w5 da AN.data.length dc AN.data∧RdAt .i64 w5 pa AN.pids.length pc AN.pids) w1:=hI
            intro v0 h0;change _=_ at h0;subst v0;intro v5 h5;change _=_ at h5;subst v5;intro v6 h6;change _=_ at h6;subst v6;refine t2o (by rfl) ?_;intro K hK;simp only [gv2];go_simp
            refine Calls.mono (do_law hI.1 HAA.out rfl hI.2.1 HW.out hI.2.2.1 hI.2.2.2) ?_
            rintro e w9 ⟨rfl,q9⟩
            refine hK _ _ ⟨rfl,trivial,?_⟩
            exact ⟨rfl,q9⟩
           case q2o8=>
            intro w1 hI;intro v7 h7
            obtain ⟨rfl,g7⟩:=h7
            refine t2o (by rfl) ?_;intro K hK;simp only [gv2];go_simp;refine hK _ _ ⟨rfl,Kept.refl _,?_⟩;show _=_;simp only [gv1];rfl
          intro w7 hI;intro v0 h0;change _=_ at h0;subst v0;intro v1 h1;change _=_ at h1;subst v1;intro v2 h2;change _=_ at h2;subst v2;intro v3 h3;change _=_ at h3;subst v3;intro v4 h4;change _=_ at h4;subst v4;intro v5 h5;change _=_ at h5;subst v5;intro v6 h6;change _=_ at h6;subst v6;intro v7 h7
          obtain ⟨rfl,g7⟩:=h7
          intro v8 h8;change _=_ at h8;subst v8
          simp only [Given,gv2]
          have G7:=Lib.hid (g7.go (fun _ _ s=>s.drop 10) (Nat.le_refl _))
          clear g7 i5 i6 i7;go_wp2_with fail
          go_roundw
          case rel=>exact ⟨some m0,vp,E,k+1,by omega,rfl,rfl,rfl,by go_num,G7⟩
          case measure=>simp [intOf] <;> omega
        ·by_cases e45:kd=4∨kd=5
         ·rcases e45 with rfl | rfl
          ·clear y1 y2 y3 y4 y5 y6 y15
           go_wp2_with fail
           refine (cut_law HX.out).mono ?_
           rintro e w2 ⟨rfl,q2⟩
           obtain ⟨mR,hcb,hca⟩:=twin_cut q2
           clear q2;go_wp2_with fail
           refine hca.mono ?_
           rintro e w3 ⟨m3,rfl,q3⟩
           have Q3:=Lib.hid q3;clear q3 hcb hca;go_wp2_with fail
           refine (boot_step Q3.out (by omega)).mono ?_
           rintro e w4 ⟨rfl,q4⟩
           have Q4:=Lib.hid q4;clear q4;go_wp2_with fail
           go_roundw
           case rel=>exact ⟨some m3,none,E,k+1,by omega,rfl,rfl,rfl,by go_num,Q4⟩
           case measure=>simp [intOf] <;> omega
          ·clear y1 y2 y3 y4 y5 y6 y15
           go_wp2_with fail
           refine (cut_law HX.out).mono ?_
           rintro e w2 ⟨rfl,q2⟩
           obtain ⟨mR,hcb,hca⟩:=twin_cut q2
           clear q2;go_wp2_with fail
           refine hca.mono ?_
           rintro e w3 ⟨m3,rfl,q3⟩
           have Q3:=Lib.hid q3;clear q3 hcb hca;go_wp2_with fail
           refine (boot_step Q3.out (by omega)).mono ?_
           rintro e w4 ⟨rfl,q4⟩
           have Q4:=Lib.hid q4;clear q4;go_wp2_with fail
           go_roundw
           case rel=>exact ⟨some m3,none,E,k+1,by omega,rfl,rfl,rfl,by go_num,Q4⟩
           case measure=>simp [intOf] <;> omega
         ·have d1:(kd == 1)=false:=by simp [e1]
          have d4:(kd == 4)=false:=by simp;omega
          have d5:(kd == 5)=false:=by simp;omega
          have b1:(kd != 1)=true:=by simp [bne,d1]
          have b4:(kd != 4)=true:=by simp [bne,d4]
          have b5:(kd != 5)=true:=by simp [bne,d5]
          cases vl with
          | none=>
           simp only [ov_none,ov_some]
           go_wp2_with fail
           go_roundw
           case rel=>exact ⟨none,vp,E,k+1,by omega,rfl,rfl,rfl,by go_num,HX.out.next⟩
           case measure=>simp [intOf] <;> omega
          | some m0=>
           simp only [ov_none,ov_some]
           by_cases e2:kd=2
           ·subst e2
            cases vp with
            | none=>
             simp only [ov_none,ov_some]
             clear y1 y2 y3 y4 y5 y6 y15;go_wp2_with fail
             refine (twin_pend HX.out).mono ?_
             rintro e w2 ⟨mp,rfl,q2⟩
             go_wp2_with fail
             refine (begin_law q2).mono ?_
             rintro e w3 ⟨rfl,q3⟩
             have Q3:=Lib.hid q3;clear q2 q3;go_wp2_with fail
             go_roundw
             case rel=>exact ⟨some m0,some mp,E,k+1,by omega,rfl,rfl,rfl,by go_num,Q3⟩
             case measure=>simp [intOf] <;> omega
            | some mp=>
             simp only [ov_none,ov_some]
             clear y1 y2 y3 y4 y5 y6 y15;go_wp2_with fail
             refine (begin_more_law HX.out).mono ?_
             rintro e w2 ⟨rfl,rfl⟩
             go_wp2_with fail
             go_roundw
             case rel=>exact ⟨some m0,some mp,E,k+1,by omega,rfl,rfl,rfl,by go_num,HX.out.next⟩
             case measure=>simp [intOf] <;> omega
           ·by_cases e3:kd=3
            ·subst e3
             cases vp with
             | none=>
              simp only [ov_none,ov_some]
              clear y1 y2 y3 y4 y5 y6 y15;go_wp2_with fail
              refine (commit_not_law HX.out).mono ?_
              rintro e w2 ⟨rfl,rfl⟩
              go_wp2_with fail
              go_roundw
              case rel=>exact ⟨some m0,none,E,k+1,by omega,rfl,rfl,rfl,by go_num,HX.out.next⟩
              case measure=>simp [intOf] <;> omega
             | some mp=>
              simp only [ov_none,ov_some]
              obtain ⟨of,hof⟩:∃ x,A.off=x:=⟨_,rfl⟩
              rw [hof] at y15;clear y1 y2 y3 y4 y5 y6 hof
              cases of with
              | true=>
               go_wp2_with fail
               refine (cut_commit_law HX.out).mono ?_
               rintro e w2 ⟨rfl,q2⟩
               have Q2:=Lib.hid q2
               obtain ⟨mb,cb,fb⟩:=q2.box
               clear q2
               cases lk with
               | true=>
                go_wp2_with fail
                go_roundw
                case rel=>exact ⟨none,none,E+1,k+1,by omega,rfl,rfl,rfl,by go_num,Q2.out.lucky⟩
                case measure=>simp [intOf] <;> omega
               | false=>
                go_wp2_with fail
                go_roundw
                case rel=>exact ⟨none,none,E,k+1,by omega,rfl,rfl,rfl,by go_num,Q2.out.unlucky⟩
                case measure=>simp [intOf] <;> omega
              | false=>
               obtain ⟨mb,cb,fb⟩:=HX.out.box
               have HC:=Lib.hid HX.out.cp;go_wp2_with fail
               refine (commit_law HC.out (by omega)).mono ?_
               rintro e w2 ⟨rfl,q2⟩
               have Q2:=Lib.hid q2;clear q2;go_wp2_with fail
               go_roundw
               case rel=>exact ⟨some m0,none,E+1,k+1,by omega,rfl,rfl,rfl,by go_num,Q2⟩
               case measure=>simp [intOf] <;> omega
            ·have d2:(kd == 2)=false:=by simp [e2]
             have d3:(kd == 3)=false:=by simp [e3]
             go_wp2_with fail
             go_roundw
             case rel=>exact ⟨some m0,vp,E,k+1,by omega,rfl,rfl,rfl,by go_num,HX.out.next⟩
             case measure=>simp [intOf] <;> omega
      ·have dk:decide ((k:Int) < (n1:Int))=false:=decide_eq_false (by omega)
       cases vl with
       | none=>
        simp only [ov_none]
        go_wp2_with fail
        go_ret
        exact ⟨rfl,HX.out.bel⟩
       | some m=>
        simp only [ov_some]
        go_wp2_with fail
        refine (doubt_law HX.out).mono ?_
        rintro e w' ⟨rfl,rfl⟩
        go_wp2_with fail
        go_ret
        exact ⟨rfl,HX.out.bel⟩
   ·have hcn:=dnew_no (w:=wC) hc
    unfold Cf.val at hcn
    refine hcn.mono ?_
    rintro e wD ⟨rfl,hb3⟩
    clear hcn;go_wp2_with fail
    go_ret
    exact ⟨rfl,HB2.out.trans (hb3.mono HB2.out.size)⟩
end Go.Proofs.YtoepnbfifjgpfaaGreat

namespace Go.Proofs.YtoepnbfifjgpfaaGreat.doubtHonest
set_option maxRecDepth 100000
open Go.ChangeShapes Go.WideShapes Go.ChangeAt Go.RowKit
set_option linter.unusedVariables false

theorem own:ownKnob Tryz.prog.godebug=none:=by kernel_rfl
theorem laidOut:laidOutB Tryz.prog=true:=by kernel_rfl

theorem lifted (os:Os) (started:os.Started) (H:Type) (enc:TypeId × Value→H) (F:Stop.Interp) :
  ReturnsInHanded {} Tryz.checked os 3 .any ((Rows.OpenSpec.upto Rows.doubtHonestSpec).pre6 enc Tryz.prog Tryz.f3 Rows.doubtHonestUptoRow.domain false) (((Rows.OpenSpec.upto Rows.doubtHonestSpec).at F).post enc Tryz.prog Tryz.f3 false true false false):=by
 refine returnsInHanded_of_cond (C:=Tryz.checked) (s:=Rows.OpenSpec.upto Rows.doubtHonestSpec) (k:=Rows.uptoSmall) rfl own started (by kernel_rfl) Tryz.func3
  (OpenSpec.witness (enc:=enc) (C:=Tryz.checked) (s:=Rows.OpenSpec.upto Rows.doubtHonestSpec) (k:=Rows.uptoSmall) rfl false ⟨#[],#[.agg #[.int .i64 0,.int .i64 0,.int .i64 0,.int .i64 0,.int .i64 0,.int .i64 0,.int .i64 0,.int .i64 0,.int .i64 0],.slice none 0 0,.slice none 0 0],[]⟩ 8 (by kernel_rfl) (by kernel_rfl) (by kernel_rfl)
   (x:=([.agg [.lit (.int .i64 0),.lit (.int .i64 0),.lit (.int .i64 0),.lit (.int .i64 0),.lit (.int .i64 0),.lit (.int .i64 0),.lit (.int .i64 0),.lit (.int .i64 0),.lit (.int .i64 0)],.nil,.nil],[],[])) (by kernel_rfl) rfl (by kernel_rfl)) ?_
 intro W base args ds gs before hval0 hW hcnd hk _
 have hval:∀ (j:Nat) t v,Tryz.f3.params[j]?=some t→args[j]?=some v→Value.okWide Tryz.prog W .any base t v:=hval0
 have hW':=hW
 obtain ⟨p,q,hA0,hV,rfl,hfz,hnd⟩:=hW
 have hA:DataW.TrodAll enc Tryz.prog W 0 (fun _=>true) true Tryz.f3.params.toList args.toList ds p:=hA0
 rw [Tryz.params3] at hA hval
 obtain ⟨v0,vs0,d0,ds0,p0,q0,hargs,rfl,rfl,h0,r0⟩:=trodAll_cons hA
 obtain ⟨v1,vs1,d1,ds1,p1,q1,rfl,rfl,rfl,h1,r1⟩:=trodAll_cons r0
 obtain ⟨v2,vs2,d2,ds2,p2,q2,rfl,rfl,rfl,h2,r2⟩:=trodAll_cons r1
 obtain ⟨rfl,rfl,rfl⟩:=trodAll_nil r2
 obtain rfl:args = #[v0,v1,v2]:=by cases args;simp_all
 obtain ⟨rfl,rfl⟩:=trodVars_none hV
 have k0:=h0
 have lt0:∀ x ∈ p0,x.block < W.heap.size:=by obtain ⟨m,hm⟩:=k0;exact DataW.trod_lt m _ _ _ hm
 obtain ⟨a0_0,a0_1,a0_2,a0_3,a0_4,a0_5,a0_6,a0_7,a0_8,rfl⟩:=open_nine Tryz.underlying23 (by kernel_rfl) (by kernel_rfl) Tryz.underlying3 (hval 0 23 v0 rfl rfl) h0
 obtain ⟨a1,len1,cap1,rfl⟩:=okWide_slice Tryz.underlying24 (hval 1 24 v1 rfl rfl)
 have k1:=h1
 have lt1:∀ x ∈ p1,x.block < W.heap.size:=by obtain ⟨m,hm⟩:=k1;exact DataW.trod_lt m _ _ _ hm
 obtain ⟨z1,w1,y1⟩:=acts_open h1
 obtain ⟨a2,len2,cap2,rfl⟩:=okWide_slice Tryz.underlying25 (hval 2 25 v2 rfl rfl)
 have k2:=h2
 have lt2:∀ x ∈ p2,x.block < W.heap.size:=by obtain ⟨m,hm⟩:=k2;exact DataW.trod_lt m _ _ _ hm
 obtain ⟨z2,w2⟩:=bools_open Tryz.underlying25 Tryz.underlying4 (by kernel_rfl) h2
 have b1:=bulk_part (l:=[d0,d1,d2]) (d:=d1) (by simp)
 clear hA0 hval0
 refine (doubtHonest_walk ⟨a0_0,a0_1,a0_2,a0_3,a0_4,a0_5,a0_6,a0_7,a0_8⟩ a1 len1 cap1 z1 a2 len2 cap2 z2 W w1 (by have:=bulk_bound hk;simp only [List.append_nil] at this;omega) w2).mono fun e W' ⟨he,bel⟩=>?_
 subst he
 exact ⟨_,rfl,_,_,_,[],_,[],hW',trodAll_mk1 (shut_bool Tryz.underlying4 _),(trodAll_cons_mk (Below.trod laidOut (by kernel_rfl) (of_decide_eq_true (by kernel_rfl)) k0 bel lt0) (trodAll_cons_mk (Below.trod laidOut (by kernel_rfl) (of_decide_eq_true (by kernel_rfl)) k1 bel lt1) (trodAll_cons_mk (Below.trod laidOut (by kernel_rfl) (of_decide_eq_true (by kernel_rfl)) k2 bel lt2) trodAll_mk0))),rfl,bel.frame _,fun h=>by cases h⟩

theorem over:Rows.doubtHonestUptoRow.holds Tryz.pinned (Rows.OpenSpec.upto Rows.doubtHonestSpec):=
 OpenClaim.holds_of_cond 3 Tryz.f3 rfl rfl rfl rfl rfl rfl rfl ⟨rfl,rfl,rfl,rfl,rfl⟩ rfl rfl rfl rfl rfl (by kernel_rfl) Tryz.func3 (by kernel_rfl)
  (of_decide_eq_true (by kernel_rfl)) (by unfold Func.isWrapper;first | (rw [if_pos (by decide +kernel)];kernel_rfl) | (rw [if_neg (by decide +kernel)];exact ⟨rfl,rfl⟩))
  (fun os started H enc _ F=>lifted os started H enc F)

/-- DoubtHonest holds for every input of a bulk that fits. -/
theorem proved:Rows.DoubtHonestUptoSaid:=over
end Go.Proofs.YtoepnbfifjgpfaaGreat.doubtHonest
