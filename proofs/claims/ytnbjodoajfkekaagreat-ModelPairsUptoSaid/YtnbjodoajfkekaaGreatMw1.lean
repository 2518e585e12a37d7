/- The reference's set of numbers, whose row may have room behind: contracts of Has, Take, Free, List. Cells of a row of the call's own, read and written. No program in sight. The document's abstract machine in memory: its plain state is that of the program's own. The document's machine: one process turned. The document's machine: a process made, a process gone. The document's process: where a page is (find). The document's machine: a process' byte stored, its list of pages set, its regions set. An append of all structs of a slice, in an obligation of a drawn region. Plain and in memory: a page set where none is. The document's machine: a stretch's pages, bytes that may be used (stretch, bytes). -/
import Derived.Test.YtnbjodoajfkekaaGreatMv14
import Derived.Test.YtnbjodoajfkekaaGreatMv1
import Derived.Laws.OwnMore
import Derived.Test.YtnbjodoajfkekaaGreatMv15
import Derived.WalkKit
import Derived.ProofKit
import Derived.BigQuiet
import Derived.Deep.QuietTactic
import Derived.Lib.Hide
import Derived.RegionTactic
import Derived.Test.YtnbjodoajfkekaaGreatMv10
import Derived.Test.YtnbjodoajfkekaaGreatMv11
import Derived.Test.YtnbjodoajfkekaaGreatMv16
import Derived.Test.YtnbjodoajfkekaaGreatMv13
import Derived.Test.YtnbjodoajfkekaaGreatMv2
namespace Go.Proofs.YtnbjodoajfkekaaGreat
set_option maxRecDepth 100000
open Go.RowKit
structure RSetC (w:World) (g h n c:Nat) (zs:List Value) (v:BitVec 64):Prop where
 row:w.heap[g]?=some (.cells #[.slice (some ⟨h,0,none⟩) n c] 140 (0,0))
 own:w.heap[h]?=some (.cells (bvals v n ++ zs).toArray 4 (0,0))
 ne:g ≠ h
 cap:n≤c∧c≤maxLen
theorem RSetAt.c {w:World} {g h n:Nat} {v:BitVec 64} (r:RSetAt w g h n v) (hn:n≤64):RSetC w g h n n [] v:=⟨r.row,by rw [List.append_nil];exact r.own,r.ne,Nat.le_refl _,by unfold maxLen;omega⟩
section
variable {w w':World} {g h n c:Nat} {zs:List Value} {v v':BitVec 64}
theorem RSetC.lt (r:RSetC w g h n c zs v):g < w.heap.size∧h < w.heap.size:=⟨(Array.getElem?_eq_some_iff.1 r.row).1,(Array.getElem?_eq_some_iff.1 r.own).1⟩
theorem RSetC.at (r:RSetC w g h n c zs v) (h1:w'.heap[g]?=w.heap[g]?) (h2:w'.heap[h]?=w.heap[h]?):RSetC w' g h n c zs v:=⟨h1.trans r.row,h2.trans r.own,r.ne,r.cap⟩
theorem RSetC.below (r:RSetC w g h n c zs v) (hb:Below w.heap.size w w'):RSetC w' g h n c zs v:=r.at (hb.block _ r.lt.1) (hb.block _ r.lt.2)
theorem RSetC.head (r:RSetC w g h n c zs v):w.cell? ⟨g,0,none⟩=some (.slice (some ⟨h,0,none⟩) n c):=by rw [cell_of_row w _ _ _ _ _ r.row];rfl
theorem RSetC.bit (r:RSetC w g h n c zs v) {i:Nat} (hi:i < n):w.cell? ⟨h,i,none⟩=some (.bool (v.getLsbD i)):=by
 rw [cell_of_row w _ _ _ _ _ r.own,← bvals_at v hi,List.getElem?_toArray,List.getElem?_append_left (by rw [bvals_len];exact hi)]
theorem RSetC.free (r:RSetC w g h n c zs v) (i:Nat):w.frozen? ⟨h,i,none⟩=false:=frozen_of_row w _ _ _ _ r.own
theorem RSetC.set (r:RSetC w g h n c zs v) (i:Nat) (b:Bool) (hi:i < n) (hs:(bvals v n).set i (.bool b)=bvals v' n):RSetC (w.setCell ⟨h,i,none⟩ (.bool b)) g h n c zs v':=by
 refine ⟨?_,?_,r.ne,r.cap⟩
 ·rw [heap_setCell_other w ⟨h,i,none⟩ g _ (fun e=>r.ne e)];exact r.row
 ·rw [heap_setCell_same w h i _ _ _ r.own,← hs]
  simp only [List.setIfInBounds_toArray]
  rw [List.set_append_left (h:=by rw [bvals_len];exact hi)]
end
theorem crhas_any {c0:Nat} {zs:List Value} (g h n:Nat) (v:BitVec 64) (p:Int) (w:World) (r:RSetC w g h n c0 zs v):Calls Tryz.prog 37 #[.pointer (some ⟨g,0,none⟩),.int .i64 p] w fun e w'=>e = .returned (.bool (hasB n v p))∧w=w':=by
 have hd0:=r.head
 by_cases h1:0≤p
 ·obtain ⟨q,rfl⟩:=Int.eq_ofNat_of_zero_le h1
  by_cases h2:q < n
  ·have c1:=r.bit h2
   have he:hasB n v q=v.getLsbD q:=hasB_nat h2
   rw [he];clear r he
   go_enter Tryz.func37,Tryz.ntmps37
   go_wp2
   go_ret
   exact ⟨rfl,rfl⟩
  ·have he:hasB n v q=false:=by unfold hasB;rw [decide_eq_false (by omega:¬ (q:Int) < n)];simp
   rw [he];clear r he
   go_enter Tryz.func37,Tryz.ntmps37
   go_wp2
   go_ret
   exact ⟨rfl,rfl⟩
 ·have he:hasB n v p=false:=by unfold hasB;rw [decide_eq_false h1];rfl
  rw [he];clear r he
  go_enter Tryz.func37,Tryz.ntmps37
  go_wp2
  go_ret
  exact ⟨rfl,rfl⟩
theorem crtake_no {c0:Nat} {zs:List Value} (g h n:Nat) (v:BitVec 64) (w:World) (r:RSetC w g h n c0 zs v) (hn:n≤64) (hf:firstF v n=n) :
  Calls Tryz.prog 51 #[.pointer (some ⟨g,0,none⟩)] w fun e w'=>e = .returned (.tuple #[.int .i64 0,.int .i64 5])∧w=w':=by
 have hd0:=r.head
 have R:=Lib.hid r;have HF:=Lib.hid hf;clear r hf
 go_enter Tryz.func51,Tryz.ntmps51
 go_wp2
 go_loop [4] (fun i=>∃ k:Nat,k≤n∧i = .int .i64 k) (fun i=>n - (intOf i).toNat)
 case atStart=>exact ⟨0,by omega,rfl⟩
 case round=>
  obtain ⟨k,hk,rfl⟩:=hrel
  by_cases hp:k < n
  ·have c1:=R.out.bit hp
   rw [firstF_below v n k (by rw [HF.out];exact hp)] at c1
   go_wp2
   go_round
   case rel=>exact ⟨k+1,by omega,by go_num⟩
   case measure=>simp [intOf] <;> omega
  ·go_wp2
   go_ret2
   exact ⟨rfl,rfl⟩
theorem crtake_yes {c0:Nat} {zs:List Value} (g h n k0:Nat) (v:BitVec 64) (w:World) (r:RSetC w g h n c0 zs v) (hn:n≤64) (hf:firstF v n=k0) (hk0:k0 < n) :
  Calls Tryz.prog 51 #[.pointer (some ⟨g,0,none⟩)] w fun e w'=>e = .returned (.tuple #[.int .i64 k0,.int .i64 0])∧RSetC w' g h n c0 zs (v ||| qbit k0)∧w.grownBy w' (some h):=by
 have hd0:=r.head
 have R:=Lib.hid r;have HF:=Lib.hid hf;clear r hf
 go_enter Tryz.func51,Tryz.ntmps51
 go_wp2
 go_loop [4] (fun i=>∃ k:Nat,k≤k0∧i = .int .i64 k) (fun i=>n - (intOf i).toNat)
 case atStart=>exact ⟨0,by omega,rfl⟩
 case round=>
  obtain ⟨k,hk,rfl⟩:=hrel
  by_cases hp:k < k0
  ·have c1:=R.out.bit (i:=k) (by omega)
   rw [firstF_below v n k (by rw [HF.out];exact hp)] at c1
   go_wp2
   go_round
   case rel=>exact ⟨k+1,by omega,by go_num⟩
   case measure=>simp [intOf] <;> omega
  ·have HE:Hid (k=k0):=by show _=_;omega
   have hkn:k < n:=by omega
   have c1:=R.out.bit hkn
   have hbf:=firstF_at v n (by rw [HF.out];exact hk0)
   rw [HF.out,← HE.out] at hbf;rw [hbf] at c1
   have cf:=R.out.free k
   have HS:=Lib.hid (bvals_put v hn hkn)
   clear hbf
   go_wp2
   go_ret2
   refine ⟨by rw [← HE.out];rfl,?_,set_grown _ _ _ _⟩
   rw [← HE.out]
   exact R.out.set _ _ (by omega) HS.out
theorem crfree_yes {c0:Nat} {zs:List Value} (g h n:Nat) (v:BitVec 64) (p:Nat) (w:World) (r:RSetC w g h n c0 zs v) (hn:n≤64) (hb:hasB n v p=true) :
  Calls Tryz.prog 55 #[.pointer (some ⟨g,0,none⟩),.int .i64 p] w fun e w'=>e = .returned (.int .i64 0)∧RSetC w' g h n c0 zs (v &&& ~~~ qbit p)∧w.grownBy w' (some h):=by
 have hp:(p:Int) < n:=by
  unfold hasB at hb
  simp only [Bool.and_eq_true,decide_eq_true_eq] at hb
  exact hb.2.1
 have hpn:p < n:=by omega
 have hd0:=r.head
 have c1:=r.bit hpn
 have cf:=r.free p
 have R:=Lib.hid r
 have HS:=Lib.hid (bvals_drop v hn hpn)
 clear r
 go_enter Tryz.func55,Tryz.ntmps55
 go_wp2_with (go_at_call 37;refine (crhas_any _ _ _ _ _ _ R.out).mono ?_;rintro e w' ⟨rfl,rfl⟩)
 go_ret
 exact ⟨rfl,R.out.set _ _ (by omega) HS.out,set_grown _ _ _ _⟩
theorem crlist_any {c0:Nat} {zs:List Value} (g h n:Nat) (v:BitVec 64) (w:World) (r:RSetC w g h n c0 zs v) (hn:n≤64) :
  Calls Tryz.prog 36 #[.pointer (some ⟨g,0,none⟩)] w (GivesPids (pidsK v n) w):=by
 have R:=Lib.hid r;clear r
 go_enter Tryz.func36,Tryz.ntmps36
 go_wp2_with fail
 go_loopw [3,4] (fun x i wr=>∃ k:Nat,k≤n∧i = .int .i64 k∧Owns .i64 3 wr w.heap.size x (pidsK v k)∧Below w.heap.size w wr) (fun _ i _=>n - (intOf i).toNat)
 case atStart=>exact ⟨0,by omega,rfl,Owns.nil _ _ _ _,Below.refl _ _⟩
 case round=>
  obtain ⟨k,hk,rfl,ow,hb⟩:=hrel
  have R1:=Lib.hid (R.out.below hb)
  have hd0:=R1.out.head
  have hsz:=hb.size
  have hpk:=pidsK_le v k
  obtain ⟨q,hq⟩:∃ q,(pidsK v k).length=q:=⟨_,rfl⟩
  obtain ⟨a,c,rfl⟩:=ow.shapeN q hq
  rw [hq] at hpk;have HQ:=Lib.hid hq;have OW:=Lib.hid ow;clear ow hq
  by_cases hp:k < n
  ·have c1:=R1.out.bit hp
   by_cases hb1:v.getLsbD k=true
   ·rw [hb1] at c1
    have HX:Hid (pidsK v (k+1)=pidsK v k ++ [(k:Int)]):=by show _=_;rw [pidsK,if_pos hb1]
    clear hb1
    go_wp2_with (at_builtin;refine app_one i64T i64I (by decide) rfl (.tmp 21) (.tmp 23) rfl _ w.heap.size _ (pidsK v k) rfl OW.out _ rfl (WalkArith.wf_i64 (by omega)) (by rw [HQ.out];omega) (by omega) ?_;intro v2 w2 ho2 hg2)
    have hb2:Below w.heap.size w w2:=hb.trans (hg2.below hsz (fun g hg=>(OW.out.at_base g hg).1))
    go_roundw
    case rel=>exact ⟨k+1,by omega,by go_num,by rw [HX.out];exact ho2,hb2⟩
    case measure=>simp [intOf] <;> omega
   ·rw [Bool.not_eq_true] at hb1
    rw [hb1] at c1
    have HX:Hid (pidsK v (k+1)=pidsK v k):=by show _=_;rw [pidsK,if_neg (by rw [hb1];decide)]
    clear hb1;go_wp2_with fail
    go_roundw
    case rel=>exact ⟨k+1,by omega,by go_num,by rw [HX.out];exact OW.out,hb⟩
    case measure=>simp [intOf] <;> omega
  ·obtain rfl:k=n:=by omega
   go_wp2_with fail
   go_ret
   exact ⟨_,rfl,OW.out,hb⟩
theorem Owns.cellAt {k:IntKind} {e:TypeId} {w:World} {base:Nat} {a:Option Addr} {n c:Nat} {l:List Int} (h:Owns k e w base (.slice a n c) l) (i:Nat) (hi:i < l.length) :
  ∃ g,a=some ⟨g,0,none⟩∧base≤g∧g < w.heap.size∧w.cell? ⟨g,i,none⟩=some (.int k (nth l i))∧w.frozen? ⟨g,i,none⟩=false:=by
 rcases h.2 with ⟨rfl,_⟩ | h2
 ·simp at hi
 ·have h3:=h2
  rcases h3.2 with ⟨hv,hn⟩ | ⟨g,cap,cur,hv,hb,hg,_⟩
  ·omega
  ·injection hv with q1 q2 q3
   subst q1 q2 q3
   refine ⟨g,rfl,hb,(Array.getElem?_eq_some_iff.1 hg).1,?_,h2.frozenAt i⟩
   rw [h2.cellAt i (by omega),List.getElem?_map,List.getElem?_eq_getElem hi,nth_eq hi];rfl
theorem Owns.stored {k:IntKind} {e:TypeId} {w:World} {base:Nat} {g n c:Nat} {l:List Int} (h:Owns k e w base (.slice (some ⟨g,0,none⟩) n c) l) (i:Nat) (x:Int) (hx:(Lit.int k x).wf=true) :
  Owns k e (w.setCell ⟨g,i,none⟩ (.int k x)) base (.slice (some ⟨g,0,none⟩) n c) (l.set i x):=by
 refine ⟨fun y hy=>?_,?_⟩
 ·rcases List.mem_or_eq_of_mem_set hy with hy | hy
  ·exact h.1 y hy
  ·rw [hy];exact hx
 ·rcases h.2 with ⟨rfl,a,hv,ha⟩ | h2
  ·exact .inl ⟨rfl,a,hv,ha⟩
  ·refine .inr ?_
   obtain ⟨a',c',hv⟩:=h.shape
   injection hv with q1 q2 q3
   subst q2
   have:=(h2.stored i (.int k x)).1
   rw [List.length_set,List.map_set]
   exact this
/-- A page's entry: its number, its bytes' block, how many, how much room. -/
structure PgE where
 n:Int
 b:Nat
 l:Nat
 c:Nat
def PgE.cells (x:PgE):List Value:=[.int .i64 x.n,.slice (some ⟨x.b,0,none⟩) x.l x.c]
theorem pgEC:Cellular PgE.cells 2:=⟨fun _=>rfl,fun x u hu=>by
 simp only [PgE.cells,List.mem_cons,List.not_mem_nil,or_false] at hu
 rcases hu with rfl | rfl <;> rfl,by decide⟩
theorem pgEI:(Tryz.prog.info? 112).map (fun i=>(i.zero,i.size,i.bytes))=some (some (.agg #[.int .i64 0,.slice none 0 0]),2,32):=by kernel_rfl
/-- Where a process lies: its block, its pages' blocks and their room. -/
structure PrH where
 b:Nat
 q:Int→Nat
 cp:Int→Nat
instance:Inhabited PrH:=⟨⟨0,fun _=>0,fun _=>0⟩⟩
def PrH.own (H:PrH) (L:List (Int × List Int)) (k:Nat):Prop:=k=H.b∨∃ x ∈ L,k=H.q x.1
def prE (H:PrH) (x:Int × List Int):PgE:=⟨x.1,H.q x.1,x.2.length,H.cp x.1⟩
def prL (H:PrH) (L:List (Int × List Int)):List PgE:=L.map (prE H)
theorem prL_len (H:PrH) (L:List (Int × List Int)):(prL H L).length=L.length:=by unfold prL;rw [List.length_map]
/-- A slice that is read, whose row is none of those that may turn. -/
def SlV {α:Type} (m:α→List Value) (k:Nat) (w:World) (No:Nat→Prop) (a:Option Addr) (n c:Nat) (L:List α):Prop:=RdS m k w a n c L∧∀ x,a=some x→0 < n→¬ No x.block
theorem SlV.tn {α:Type} {m:α→List Value} {k:Nat} {w w':World} {No Q:Nat→Prop} {a:Option Addr} {n c:Nat} {L:List α} (h:SlV m k w No a n c L) (t:Tn Q w w') (hq:∀ k,Q k→No k):SlV m k w' No a n c L:=
 ⟨h.1.tn t (fun x hx h0 hk=>h.2 x hx h0 (hq _ hk)),h.2⟩
theorem SlV.reno {α:Type} {m:α→List Value} {k:Nat} {w:World} {No No':Nat→Prop} {a:Option Addr} {n c:Nat} {L:List α} (C:Cellular m k) (h:SlV m k w No a n c L) (hq:∀ k,k < w.heap.size→No' k→No k):SlV m k w No' a n c L:=
 ⟨h.1,fun x hx h0 hk=>h.2 x hx h0 (hq _ (h.1.lt C x hx h0) hk)⟩
theorem OwnsS.slV {α:Type} {m:α→List Value} {k:Nat} {e:TypeId} {w:World} {base:Nat} {a:Option Addr} {n c:Nat} {L:List α} {No:Nat→Prop} (C:Cellular m k) (h:OwnsS m k e w base (.slice a n c) L) (hn:∀ k,No k→k < base):SlV m k w No a n c L:=by
 have hrd:=h.rd C
 refine ⟨hrd,fun x hx h0 hk=>?_⟩
 have h1:=hn _ hk
 rcases h with ⟨hl,_⟩ | ⟨_,⟨hv,hz⟩ | ⟨g,cap,cur,hv,hb,_⟩⟩
 ·have:=hrd.len;rw [hl] at this;simp at this;omega
 ·injection hv with e1 e2 e3;omega
 ·injection hv with e1 e2 e3
  rw [hx] at e1
  injection e1 with e1
  rw [e1] at h1
  replace h1:g < base:=h1
  omega
/-- A process. -/
structure PrIn (w:World) (No:Nat→Prop) (H:PrH) (R:List Rg) (L:List (Int × List Int)):Prop where
 row:∃ ra rn rc la lc,w.heap[H.b]?=some (.cells #[.slice ra rn rc,.slice la L.length lc] 110 (0,0))∧SlV Rg.cells 3 w No ra rn rc R∧SlV PgE.cells 2 w No la L.length lc (prL H L)
 pg:∀ x ∈ L,Owns .u8 5 w 0 (.slice (some ⟨H.q x.1,0,none⟩) x.2.length (H.cp x.1)) x.2
 inj:∀ x ∈ L,∀ y ∈ L,H.q x.1=H.q y.1→x.1=y.1
 ne:∀ x ∈ L,H.q x.1 ≠ H.b
 no:∀ k,H.own L k→No k
theorem owns_tn0 {k:IntKind} {e:TypeId} {w w':World} {base g n c:Nat} {l:List Int} {Q:Nat→Prop} (h:Owns k e w base (.slice (some ⟨g,0,none⟩) n c) l) (t:Tn Q w w') (hq:¬ Q g):Owns k e w' base (.slice (some ⟨g,0,none⟩) n c) l:=by
 obtain ⟨hw,h⟩:=h
 rcases h with h | ⟨h1,h2 | ⟨g',cap,cur,hv,hb,hh,hr⟩⟩
 ·exact ⟨hw,.inl h⟩
 ·exact ⟨hw,.inr ⟨h1,.inl h2⟩⟩
 ·have e:g=g':=by injection hv with e1;injection e1 with e1;injection e1
  exact ⟨hw,.inr ⟨h1,.inr ⟨g',cap,cur,hv,hb,row_tn hh t (by rw [← e];exact hq),hr⟩⟩⟩
theorem PrIn.tn {w w':World} {No Q:Nat→Prop} {H:PrH} {R:List Rg} {L:List (Int × List Int)} (p:PrIn w No H R L) (t:Tn Q w w') (hq:∀ k,Q k→No k∧¬ H.own L k):PrIn w' No H R L:=by
 obtain ⟨ra,rn,rc,la,lc,h1,h2,h3⟩:=p.row
 have q0:∀ k,Q k→No k:=fun k hk=>(hq k hk).1
 exact ⟨⟨ra,rn,rc,la,lc,row_tn h1 t (fun hk=>(hq _ hk).2 (.inl rfl)),h2.tn t q0,h3.tn t q0⟩,fun x hx=>owns_tn0 (p.pg x hx) t (fun hk=>(hq _ hk).2 (.inr ⟨x,hx,rfl⟩)),p.inj,p.ne,p.no⟩
theorem PrIn.reno {w:World} {No No':Nat→Prop} {H:PrH} {R:List Rg} {L:List (Int × List Int)} (p:PrIn w No H R L) (h1:∀ k,No k→No' k) (h2:∀ k,k < w.heap.size→No' k→No k):PrIn w No' H R L:=by
 obtain ⟨ra,rn,rc,la,lc,e1,e2,e3⟩:=p.row
 exact ⟨⟨ra,rn,rc,la,lc,e1,e2.reno rgC h2,e3.reno pgEC h2⟩,p.pg,p.inj,p.ne,fun k hk=>h1 k (p.no k hk)⟩
/-- Fewer blocks that may turn. -/
theorem PrIn.less {w:World} {No No':Nat→Prop} {H:PrH} {R:List Rg} {L:List (Int × List Int)} (p:PrIn w No' H R L) (h1:∀ k,No k→No' k) (h2:∀ k,H.own L k→No k):PrIn w No H R L:=by
 obtain ⟨ra,rn,rc,la,lc,e1,e2,e3⟩:=p.row
 exact ⟨⟨ra,rn,rc,la,lc,e1,e2.reno rgC (fun k _ hk=>h1 k hk),e3.reno pgEC (fun k _ hk=>h1 k hk)⟩,p.pg,p.inj,p.ne,h2⟩
/-- Where a machine lies. -/
structure RmH where
 m:Nat
 s:Nat
 sl:Nat
 p:Nat
 pr:Int→PrH
def RmH.own (h:RmH) (st:Mc) (k:Nat):Prop:=k=h.sl∨k=h.p∨∃ q,st.has q=true∧(h.pr q).own (st.ms q) k
def prV (h:RmH) (st:Mc) (q:Int):Value:=if st.has q=true then .pointer (some ⟨(h.pr q).b,0,none⟩) else .pointer none
def prRow (h:RmH) (st:Mc):List Value:=(List.range st.pr).map fun (k:Nat)=>prV h st (k:Int)
def rmRow (h:RmH) (st:Mc):Obj:=.cells #[.int .i64 st.c.a0,.int .i64 st.c.a1,.int .i64 st.c.a2,.int .i64 st.c.a3,.int .i64 st.c.page,.int .i64 st.c.a5,.int .i64 st.c.procs,.int .i64 st.c.regions,.int .i64 st.c.pages,.pointer (some ⟨h.s,0,none⟩),.slice (some ⟨h.p,0,none⟩) st.pr st.pr] 74 (0,0)
structure RmIn (w:World) (No:Nat→Prop) (h:RmH) (st:Mc):Prop where
 row:w.heap[h.m]?=some (rmRow h st)
 set:∃ c zs,RSetC w h.s h.sl st.pr c zs st.v
 prow:w.heap[h.p]?=some (.cells (prRow h st).toArray 81 (0,0))
 pr:∀ q,st.has q=true→PrIn w No (h.pr q) (st.rs q) (st.ms q)
 ok:McOk st
 no:No h.sl∧No h.p∧¬ No h.m∧¬ No h.s
 ap:∀ q q' k,st.has q=true→st.has q'=true→(h.pr q).own (st.ms q) k→(h.pr q').own (st.ms q') k→q=q'
 ne:h.sl ≠ h.p∧∀ q,st.has q=true→¬ (h.pr q).own (st.ms q) h.sl∧¬ (h.pr q).own (st.ms q) h.p
 lt:∀ k,No k→k < w.heap.size
section
variable {w w':World} {No No' Q:Nat→Prop} {h:RmH} {st:Mc}
theorem RmIn.own_no (i:RmIn w No h st):∀ k,h.own st k→No k:=by
 rintro k (e | e | ⟨q,hq,hk⟩)
 ·rw [e];exact i.no.1
 ·rw [e];exact i.no.2.1
 ·exact (i.pr q hq).no k hk
theorem RmIn.tn (i:RmIn w No h st) (t:Tn Q w w') (hq:∀ k,Q k→No k∧¬ h.own st k):RmIn w' No h st:=by
 obtain ⟨c,zs,hs⟩:=i.set
 have qm:¬ Q h.m:=fun hk=>i.no.2.2.1 (hq _ hk).1
 have qs:¬ Q h.s:=fun hk=>i.no.2.2.2 (hq _ hk).1
 have ql:¬ Q h.sl:=fun hk=>(hq _ hk).2 (.inl rfl)
 have qp:¬ Q h.p:=fun hk=>(hq _ hk).2 (.inr (.inl rfl))
 exact ⟨row_tn i.row t qm,⟨c,zs,hs.at (t.block _ hs.lt.1 qs) (t.block _ hs.lt.2 ql)⟩,row_tn i.prow t qp,fun q h1=>(i.pr q h1).tn t (fun k hk=>⟨(hq k hk).1,fun h2=>(hq k hk).2 (.inr (.inr ⟨q,h1,h2⟩))⟩),i.ok,i.no,i.ap,i.ne,fun k hk=>Nat.lt_of_lt_of_le (i.lt k hk) t.size⟩
theorem RmIn.below (i:RmIn w No h st) (b:Below w.heap.size w w'):RmIn w' No h st:=i.tn (Tn.of (Q:=fun _=>False) b) (fun _ h=>h.elim)
theorem RmIn.more (i:RmIn w No h st) (b:Below w.heap.size w w') (h1:∀ k,No k→No' k) (h2:∀ k,No' k→No k∨w.heap.size≤k) (h3:∀ k,No' k→k < w'.heap.size):RmIn w' No' h st:=by
 have q:∀ k,k < w.heap.size→No' k→No k:=fun k hk hn=>by
  rcases h2 k hn with h | h
  ·exact h
  ·omega
 have hm:h.m < w.heap.size:=(Array.getElem?_eq_some_iff.1 i.row).1
 obtain ⟨c,zs,hs⟩:=i.set
 have j:=i.below b
 exact ⟨j.row,j.set,j.prow,fun p hp=>((i.pr p hp).reno h1 q).tn (Tn.of (Q:=fun _=>False) b) (fun _ h=>h.elim),i.ok,⟨h1 _ i.no.1,h1 _ i.no.2.1,fun hk=>i.no.2.2.1 (q _ hm hk),fun hk=>i.no.2.2.2 (q _ hs.lt.1 hk)⟩,i.ap,i.ne,h3⟩
theorem RmIn.less (i:RmIn w No' h st) (h1:∀ k,No k→No' k) (h2:∀ k,h.own st k→No k):RmIn w No h st:=
 ⟨i.row,i.set,i.prow,fun q hq=>(i.pr q hq).less h1 (fun k hk=>h2 k (.inr (.inr ⟨q,hq,hk⟩))),i.ok,⟨h2 _ (.inl rfl),h2 _ (.inr (.inl rfl)),fun hk=>i.no.2.2.1 (h1 _ hk),fun hk=>i.no.2.2.2 (h1 _ hk)⟩,i.ap,i.ne,fun k hk=>i.lt k (h1 k hk)⟩
theorem RmIn.cells (i:RmIn w No h st):w.cell? ⟨h.m,4,none⟩=some (.int .i64 st.c.page)∧w.cell? ⟨h.m,6,none⟩=some (.int .i64 st.c.procs)∧w.cell? ⟨h.m,7,none⟩=some (.int .i64 st.c.regions)∧w.cell? ⟨h.m,8,none⟩=some (.int .i64 st.c.pages) ∧
  w.cell? ⟨h.m,9,none⟩=some (.pointer (some ⟨h.s,0,none⟩))∧w.cell? ⟨h.m,10,none⟩=some (.slice (some ⟨h.p,0,none⟩) st.pr st.pr):=by
 have r:=i.row
 unfold rmRow at r
 exact ⟨cell_of_row w h.m 4 _ _ _ r,cell_of_row w h.m 6 _ _ _ r,cell_of_row w h.m 7 _ _ _ r,cell_of_row w h.m 8 _ _ _ r,cell_of_row w h.m 9 _ _ _ r,cell_of_row w h.m 10 _ _ _ r⟩
theorem RmIn.ptr (i:RmIn w No h st) {q:Int} (hq:st.has q=true):∃ k:Nat,q=(k:Int)∧k < st.pr∧w.cell? ⟨h.p,k,none⟩=some (.pointer (some ⟨(h.pr q).b,0,none⟩)):=by
 have hr:=hq
 unfold Mc.has hasB at hr
 have hpr:=i.ok.prI
 simp at hr
 refine ⟨q.toNat,by omega,by omega,?_⟩
 rw [cell_of_row w _ _ _ _ _ i.prow]
 unfold prRow
 rw [List.getElem?_toArray,List.getElem?_map,List.getElem?_range (by omega)]
 show some (prV h st ((q.toNat:Nat):Int))=_
 rw [show ((q.toNat:Nat):Int)=q by omega]
 unfold prV
 rw [if_pos hq]
theorem RmIn.ptr_no (i:RmIn w No h st) {k:Nat} (hk:k < st.pr) (hq:st.has (k:Int)=false):w.cell? ⟨h.p,k,none⟩=some (.pointer none):=by
 rw [cell_of_row w _ _ _ _ _ i.prow]
 unfold prRow
 rw [List.getElem?_toArray,List.getElem?_map,List.getElem?_range hk]
 show some (prV h st (k:Int))=_
 unfold prV
 rw [if_neg (by rw [hq];decide)]
end
section
variable {w w':World} {No No':Nat→Prop} {h:RmH} {st:Mc} {q:Int} {H':PrH} {R':List Rg} {L':List (Int × List Int)}
theorem RmIn.own_lt (i:RmIn w No h st) {q:Int} (hq:st.has q=true) {k:Nat} (hk:(h.pr q).own (st.ms q) k):k < w.heap.size:=i.lt k ((i.pr q hq).no k hk)
theorem RmIn.proc (i:RmIn w No h st) (hq:st.has q=true) (t:Tn ((h.pr q).own (st.ms q)) w w') (p:PrIn w' No' H' R' L')
  (ok:McOk { st with rs:=upd st.rs q R',ms:=upd st.ms q L' }) (hb:H'.b=(h.pr q).b) (ho:∀ k,H'.own L' k→(h.pr q).own (st.ms q) k∨w.heap.size≤k)
  (h1:∀ k,No k→No' k) (h2:∀ k,No' k→No k∨w.heap.size≤k) (h3:∀ k,No' k→k < w'.heap.size) :
  RmIn w' No' { h with pr:=upd h.pr q H' } { st with rs:=upd st.rs q R',ms:=upd st.ms q L' }:=by
 have hno:=(i.pr q hq).no
 have hr:∀ k,k < w.heap.size→No' k→No k:=fun k hk hn=>by
  rcases h2 k hn with h | h
  ·exact h
  ·omega
 obtain ⟨c,zs,hs⟩:=i.set
 have hm:h.m < w.heap.size:=(Array.getElem?_eq_some_iff.1 i.row).1
 have qm:¬ (h.pr q).own (st.ms q) h.m:=fun hk=>i.no.2.2.1 (hno _ hk)
 have qs:¬ (h.pr q).own (st.ms q) h.s:=fun hk=>i.no.2.2.2 (hno _ hk)
 have ql:=(i.ne.2 q hq).1
 have qp:=(i.ne.2 q hq).2
 have hprv:prRow { h with pr:=upd h.pr q H' } { st with rs:=upd st.rs q R',ms:=upd st.ms q L' }=prRow h st:=by
  unfold prRow
  refine List.map_congr_left (fun k _=>?_)
  unfold prV
  by_cases e:(k:Int)=q
  ·subst e
   show (if st.has k=true then Value.pointer (some ⟨(upd h.pr k H' k).b,0,none⟩) else _)=_
   rw [upd_same,hb]
  ·show (if st.has k=true then Value.pointer (some ⟨(upd h.pr q H' k).b,0,none⟩) else _)=_
   rw [upd_other _ _ e]
 refine ⟨row_tn i.row t qm,⟨c,zs,hs.at (t.block _ hs.lt.1 qs) (t.block _ hs.lt.2 ql)⟩,?_,?_,ok,⟨h1 _ i.no.1,h1 _ i.no.2.1,fun hk=>i.no.2.2.1 (hr _ hm hk),fun hk=>i.no.2.2.2 (hr _ hs.lt.1 hk)⟩,?_,⟨i.ne.1,?_⟩,h3⟩
 ·rw [hprv]
  exact row_tn i.prow t qp
 ·intro p' hp'
  by_cases e:p'=q
  ·subst e
   show PrIn w' No' (upd h.pr p' H' p') (upd st.rs p' R' p') (upd st.ms p' L' p')
   rw [upd_same,upd_same,upd_same]
   exact p
  ·show PrIn w' No' (upd h.pr q H' p') (upd st.rs q R' p') (upd st.ms q L' p')
   rw [upd_other _ _ e,upd_other _ _ e,upd_other _ _ e]
   refine ((i.pr p' hp').reno h1 hr).tn t (fun k hk=>⟨h1 _ (hno k hk),fun h4=>e (i.ap _ _ k hp' hq h4 hk)⟩)
 ·intro p1 p2 k e1 e2 o1 o2
  have f1:(p1=q∧H'.own L' k)∨(p1 ≠ q∧(h.pr p1).own (st.ms p1) k):=by
   by_cases e:p1=q
   ·subst e
    change (upd h.pr p1 H' p1).own (upd st.ms p1 L' p1) k at o1
    rw [upd_same,upd_same] at o1
    exact .inl ⟨rfl,o1⟩
   ·change (upd h.pr q H' p1).own (upd st.ms q L' p1) k at o1
    rw [upd_other _ _ e,upd_other _ _ e] at o1
    exact .inr ⟨e,o1⟩
  have f2:(p2=q∧H'.own L' k)∨(p2 ≠ q∧(h.pr p2).own (st.ms p2) k):=by
   by_cases e:p2=q
   ·subst e
    change (upd h.pr p2 H' p2).own (upd st.ms p2 L' p2) k at o2
    rw [upd_same,upd_same] at o2
    exact .inl ⟨rfl,o2⟩
   ·change (upd h.pr q H' p2).own (upd st.ms q L' p2) k at o2
    rw [upd_other _ _ e,upd_other _ _ e] at o2
    exact .inr ⟨e,o2⟩
  rcases f1 with ⟨a1,b1⟩ | ⟨a1,b1⟩ <;> rcases f2 with ⟨a2,b2⟩ | ⟨a2,b2⟩
  ·rw [a1,a2]
  ·rcases ho k b1 with g | g
   ·exact absurd (i.ap _ _ k e2 hq b2 g) a2
   ·have:=i.own_lt e2 b2;omega
  ·rcases ho k b2 with g | g
   ·exact absurd (i.ap _ _ k e1 hq b1 g) a1
   ·have:=i.own_lt e1 b1;omega
  ·exact i.ap _ _ k e1 e2 b1 b2
 ·intro p' hp'
  by_cases e:p'=q
  ·subst e
   show ¬ (upd h.pr p' H' p').own (upd st.ms p' L' p') h.sl∧¬ (upd h.pr p' H' p').own (upd st.ms p' L' p') h.p
   rw [upd_same,upd_same]
   refine ⟨fun hk=>?_,fun hk=>?_⟩
   ·rcases ho _ hk with g | g
    ·exact ql g
    ·have:=i.lt _ i.no.1;omega
   ·rcases ho _ hk with g | g
    ·exact qp g
    ·have:=i.lt _ i.no.2.1;omega
  ·show ¬ (upd h.pr q H' p').own (upd st.ms q L' p') h.sl∧¬ (upd h.pr q H' p').own (upd st.ms q L' p') h.p
   rw [upd_other _ _ e,upd_other _ _ e]
   exact i.ne.2 p' hp'
/-- What a turned machine owns. -/
theorem RmIn.proc_own (hq:st.has q=true) (ho:∀ k,H'.own L' k→(h.pr q).own (st.ms q) k∨w.heap.size≤k):∀ k,RmH.own { h with pr:=upd h.pr q H' } { st with rs:=upd st.rs q R',ms:=upd st.ms q L' } k→h.own st k∨w.heap.size≤k:=by
 rintro k (e | e | ⟨p,hp,hk⟩)
 ·exact .inl (.inl e)
 ·exact .inl (.inr (.inl e))
 ·by_cases e:p=q
  ·subst e
   change (upd h.pr p H' p).own (upd st.ms p L' p) k at hk
   rw [upd_same,upd_same] at hk
   rcases ho k hk with g | g
   ·exact .inl (.inr (.inr ⟨p,hq,g⟩))
   ·exact .inr g
  ·change (upd h.pr q H' p).own (upd st.ms q L' p) k at hk
   rw [upd_other _ _ e,upd_other _ _ e] at hk
   exact .inl (.inr (.inr ⟨p,hp,hk⟩))
end
section
variable {w w':World} {No No':Nat→Prop} {h:RmH} {st:Mc} {q:Int} {H':PrH} {R':List Rg} {L':List (Int × List Int)}
theorem prRow_set {h h':RmH} {st st':Mc} {k0:Nat} {v:Value} (hpr:st'.pr=st.pr) (h0:prV h' st' k0=v) (h1:∀ k:Nat,k ≠ k0→prV h' st' k=prV h st k):(prRow h st).set k0 v=prRow h' st':=by
 refine List.ext_getElem? (fun j=>?_)
 unfold prRow
 rw [List.getElem?_set,List.length_map,List.length_range,List.getElem?_map,List.getElem?_map,hpr]
 by_cases e:k0=j
 ·subst e
  rw [if_pos rfl]
  by_cases hj:k0 < st.pr
  ·rw [if_pos hj,List.getElem?_range hj,Option.map_some,h0]
  ·rw [if_neg hj,List.getElem?_eq_none (by rw [List.length_range];omega)];rfl
 ·rw [if_neg e]
  by_cases hj:j < st.pr
  ·rw [List.getElem?_range hj,Option.map_some,Option.map_some,h1 j (fun e2=>e e2.symm)]
  ·rw [List.getElem?_eq_none (by rw [List.length_range];omega)];rfl
theorem RmIn.made (i:RmIn w No h st) {k0:Nat} {v':BitVec 64} {c:Nat} {zs:List Value} (t:Tn (fun k=>k=h.sl∨k=h.p) w w') (hs:RSetC w' h.s h.sl st.pr c zs v')
  (hp:w'.heap[h.p]?=some (.cells ((prRow h st).set k0 (.pointer (some ⟨H'.b,0,none⟩))).toArray 81 (0,0))) (p:PrIn w' No' H' R' L')
  (hv:∀ q,Mc.has { st with v:=v',rs:=upd st.rs k0 R',ms:=upd st.ms k0 L' } q=(st.has q || decide (q=k0)))
  (ok:McOk { st with v:=v',rs:=upd st.rs k0 R',ms:=upd st.ms k0 L' }) (ho:∀ k,H'.own L' k→w.heap.size≤k)
  (h1:∀ k,No k→No' k) (h2:∀ k,No' k→No k∨w.heap.size≤k) (h3:∀ k,No' k→k < w'.heap.size) :
  RmIn w' No' { h with pr:=upd h.pr k0 H' } { st with v:=v',rs:=upd st.rs k0 R',ms:=upd st.ms k0 L' }:=by
 have hr:∀ k,k < w.heap.size→No' k→No k:=fun k hk hn=>by
  rcases h2 k hn with h | h
  ·exact h
  ·omega
 obtain ⟨c',zs',hs'⟩:=i.set
 have hm:h.m < w.heap.size:=(Array.getElem?_eq_some_iff.1 i.row).1
 have old:∀ q,q ≠ (k0:Int)→Mc.has { st with v:=v',rs:=upd st.rs k0 R',ms:=upd st.ms k0 L' } q=st.has q:=fun q e=>by rw [hv];simp [e]
 have new:Mc.has { st with v:=v',rs:=upd st.rs k0 R',ms:=upd st.ms k0 L' } (k0:Int)=true:=by rw [hv];simp
 have qm:¬ (h.m=h.sl∨h.m=h.p):=fun e=>by
  rcases e with e | e
  ·exact i.no.2.2.1 (by rw [e];exact i.no.1)
  ·exact i.no.2.2.1 (by rw [e];exact i.no.2.1)
 refine ⟨row_tn i.row t qm,⟨c,zs,hs⟩,?_,?_,ok,⟨h1 _ i.no.1,h1 _ i.no.2.1,fun hk=>i.no.2.2.1 (hr _ hm hk),fun hk=>i.no.2.2.2 (hr _ hs'.lt.1 hk)⟩,?_,⟨i.ne.1,?_⟩,h3⟩
 ·refine hp.trans (congrArg (fun l:List Value=>some (Obj.cells l.toArray 81 (0,0))) (prRow_set rfl ?_ ?_))
  ·unfold prV
   rw [if_pos new]
   show Value.pointer (some ⟨(upd h.pr k0 H' k0).b,0,none⟩)=_
   rw [upd_same]
  ·intro k hk
   have e:(k:Int) ≠ k0:=by omega
   unfold prV
   rw [old _ e]
   show (if st.has k=true then Value.pointer (some ⟨(upd h.pr k0 H' k).b,0,none⟩) else _)=_
   rw [upd_other _ _ e]
 ·intro p' hp'
  by_cases e:p'=k0
  ·subst e
   show PrIn w' No' (upd h.pr k0 H' k0) (upd st.rs k0 R' k0) (upd st.ms k0 L' k0)
   rw [upd_same,upd_same,upd_same]
   exact p
  ·rw [old _ e] at hp'
   show PrIn w' No' (upd h.pr k0 H' p') (upd st.rs k0 R' p') (upd st.ms k0 L' p')
   rw [upd_other _ _ e,upd_other _ _ e,upd_other _ _ e]
   refine ((i.pr p' hp').reno h1 hr).tn t (fun k hk=>?_)
   rcases hk with rfl | rfl
   ·exact ⟨h1 _ i.no.1,(i.ne.2 p' hp').1⟩
   ·exact ⟨h1 _ i.no.2.1,(i.ne.2 p' hp').2⟩
 ·intro p1 p2 k e1 e2 o1 o2
  have f:∀ {p1:Int},Mc.has { st with v:=v',rs:=upd st.rs k0 R',ms:=upd st.ms k0 L' } p1=true→(upd h.pr k0 H' p1).own (upd st.ms k0 L' p1) k→(p1=k0∧H'.own L' k)∨(st.has p1=true∧(h.pr p1).own (st.ms p1) k):=by
   intro p1 e1 o1
   by_cases e:p1=k0
   ·subst e
    rw [upd_same,upd_same] at o1
    exact .inl ⟨rfl,o1⟩
   ·rw [upd_other _ _ e,upd_other _ _ e] at o1
    exact .inr ⟨by rw [← old _ e];exact e1,o1⟩
  rcases f e1 o1 with ⟨a1,b1⟩ | ⟨a1,b1⟩ <;> rcases f e2 o2 with ⟨a2,b2⟩ | ⟨a2,b2⟩
  ·rw [a1,a2]
  ·have:=ho k b1;have:=i.own_lt a2 b2;omega
  ·have:=ho k b2;have:=i.own_lt a1 b1;omega
  ·exact i.ap _ _ k a1 a2 b1 b2
 ·intro p' hp'
  by_cases e:p'=k0
  ·subst e
   show ¬ (upd h.pr k0 H' k0).own (upd st.ms k0 L' k0) h.sl∧¬ (upd h.pr k0 H' k0).own (upd st.ms k0 L' k0) h.p
   rw [upd_same,upd_same]
   refine ⟨fun hk=>?_,fun hk=>?_⟩
   ·have:=ho _ hk;have:=i.lt _ i.no.1;omega
   ·have:=ho _ hk;have:=i.lt _ i.no.2.1;omega
  ·rw [old _ e] at hp'
   show ¬ (upd h.pr k0 H' p').own (upd st.ms k0 L' p') h.sl∧¬ (upd h.pr k0 H' p').own (upd st.ms k0 L' p') h.p
   rw [upd_other _ _ e,upd_other _ _ e]
   exact i.ne.2 p' hp'
theorem RmIn.went (i:RmIn w No h st) {k0:Nat} {v':BitVec 64} {c:Nat} {zs:List Value} (t:Tn (fun k=>k=h.sl∨k=h.p) w w') (hs:RSetC w' h.s h.sl st.pr c zs v')
  (hp:w'.heap[h.p]?=some (.cells ((prRow h st).set k0 (.pointer none)).toArray 81 (0,0)))
  (hv:∀ q,Mc.has { st with v:=v',rs:=upd st.rs k0 [],ms:=upd st.ms k0 [] } q=(st.has q && !decide (q=k0)))
  (ok:McOk { st with v:=v',rs:=upd st.rs k0 [],ms:=upd st.ms k0 [] }) :
  RmIn w' No h { st with v:=v',rs:=upd st.rs k0 [],ms:=upd st.ms k0 [] }:=by
 obtain ⟨c',zs',hs'⟩:=i.set
 have has:∀ q,Mc.has { st with v:=v',rs:=upd st.rs k0 [],ms:=upd st.ms k0 [] } q=true→st.has q=true∧q ≠ k0:=fun q e=>by rw [hv] at e;simpa using e
 have qm:¬ (h.m=h.sl∨h.m=h.p):=fun e=>by
  rcases e with e | e
  ·exact i.no.2.2.1 (by rw [e];exact i.no.1)
  ·exact i.no.2.2.1 (by rw [e];exact i.no.2.1)
 refine ⟨row_tn i.row t qm,⟨c,zs,hs⟩,?_,?_,ok,i.no,?_,⟨i.ne.1,?_⟩,fun k hk=>Nat.lt_of_lt_of_le (i.lt k hk) t.size⟩
 ·refine hp.trans (congrArg (fun l:List Value=>some (Obj.cells l.toArray 81 (0,0))) (prRow_set rfl ?_ ?_))
  ·unfold prV
   rw [if_neg (by rw [hv];simp)]
  ·intro k hk
   have e:(k:Int) ≠ k0:=by omega
   unfold prV
   rw [hv]
   simp [e]
 ·intro p' hp'
  obtain ⟨a,e⟩:=has p' hp'
  show PrIn w' No (h.pr p') (upd st.rs k0 [] p') (upd st.ms k0 [] p')
  rw [upd_other _ _ e,upd_other _ _ e]
  refine (i.pr p' a).tn t (fun k hk=>?_)
  rcases hk with rfl | rfl
  ·exact ⟨i.no.1,(i.ne.2 p' a).1⟩
  ·exact ⟨i.no.2.1,(i.ne.2 p' a).2⟩
 ·intro p1 p2 k e1 e2 o1 o2
  obtain ⟨a1,n1⟩:=has p1 e1
  obtain ⟨a2,n2⟩:=has p2 e2
  change (h.pr p1).own (upd st.ms k0 [] p1) k at o1
  change (h.pr p2).own (upd st.ms k0 [] p2) k at o2
  rw [upd_other _ _ n1] at o1;rw [upd_other _ _ n2] at o2
  exact i.ap _ _ k a1 a2 o1 o2
 ·intro p' hp'
  obtain ⟨a,e⟩:=has p' hp'
  show ¬ (h.pr p').own (upd st.ms k0 [] p') h.sl∧¬ (h.pr p').own (upd st.ms k0 [] p') h.p
  rw [upd_other _ _ e]
  exact i.ne.2 p' a
end
set_option linter.unusedSimpArgs false
/-- A page's place among those that were stored to. -/
def pos (L:List (Int × List Int)) (n:Int):Nat:=(L.takeWhile fun x=>decide (x.1 < n)).length
theorem pos_le (L:List (Int × List Int)) (n:Int):pos L n≤L.length:=(List.takeWhile_prefix _).length_le
theorem pos_lt {L:List (Int × List Int)} {n:Int} {k:Nat} (h:k < pos L n):∃ x,L[k]?=some x∧x.1 < n:=by
 unfold pos at h
 have hp:=List.takeWhile_prefix (l:=L) (fun x=>decide (x.1 < n))
 have hl:=hp.length_le
 have e1:(L.takeWhile fun x=>decide (x.1 < n))[k]?=L[k]?:=by
  obtain ⟨t,ht⟩:=hp
  conv=>rhs;rw [← ht]
  rw [List.getElem?_append_left h]
 have e2:(L.takeWhile fun x=>decide (x.1 < n))[k]?=some ((L.takeWhile fun x=>decide (x.1 < n))[k]):=List.getElem?_eq_getElem h
 refine ⟨_,e1.symm.trans e2,?_⟩
 have h3:∀ (l:List (Int × List Int)) (y:Int × List Int),y ∈ (l.takeWhile fun x=>decide (x.1 < n))→y.1 < n:=by
  intro l
  induction l with
  | nil=>intro y hy;simp at hy
  | cons z r ih=>
   intro y hy;rw [List.takeWhile_cons] at hy
   split at hy
   ·rename_i hz
    rcases List.mem_cons.1 hy with rfl | hy
    ·simpa using hz
    ·exact ih y hy
   ·cases hy
 exact h3 L _ (List.getElem_mem _)
theorem pos_at {n:Int}:∀ {L:List (Int × List Int)} {x:Int × List Int},L[pos L n]?=some x→¬ x.1 < n
 | [],x,h=>by simp at h
 | z :: r,x,h=>by
  unfold pos at h
  rw [List.takeWhile_cons] at h
  by_cases hz:z.1 < n
  ·rw [if_pos (by simpa using hz),List.length_cons,List.getElem?_cons_succ] at h
   exact pos_at (L:=r) h
  ·rw [if_neg (by simpa using hz)] at h
   simp at h
   rw [← h]
   exact hz
theorem pos_none {L:List (Int × List Int)} {n:Int} (h:pos L n=L.length):kget L n=none:=by
 refine kget_none (fun p hp e=>?_)
 obtain ⟨i,hi,rfl⟩:=List.getElem_of_mem hp
 obtain ⟨x,hx,hlt⟩:=pos_lt (L:=L) (n:=n) (k:=i) (by omega)
 rw [List.getElem?_eq_getElem hi] at hx
 injection hx with hx
 rw [hx] at e
 omega
theorem pos_kget {L:List (Int × List Int)} (hs:SrtP L) {n:Int} {x:Int × List Int} (h:L[pos L n]?=some x):kget L n=if x.1=n then some x.2 else none:=by
 have hge:=pos_at h
 by_cases e:x.1=n
 ·rw [if_pos e,kget_iff hs,← e]
  exact List.mem_of_getElem? h
 ·rw [if_neg e]
  refine kget_none (fun p hp e1=>?_)
  obtain ⟨i,hi,rfl⟩:=List.getElem_of_mem hp
  obtain ⟨hl,hx⟩:=List.getElem?_eq_some_iff.1 h
  have hpw:=List.pairwise_iff_getElem.1 hs
  rcases Nat.lt_trichotomy i (pos L n) with h1 | h1 | h1
  ·obtain ⟨y,hy,hlt⟩:=pos_lt h1
   rw [List.getElem?_eq_getElem hi] at hy
   injection hy with hy
   rw [hy] at e1
   omega
  ·subst h1
   rw [hx] at e1
   exact e e1
  ·have:=hpw (pos L n) i hl hi h1
   rw [hx] at this
   omega
theorem PrIn.cell {w:World} {No:Nat→Prop} {H:PrH} {R:List Rg} {L:List (Int × List Int)} (p:PrIn w No H R L):∃ ra rn rc la lc,w.cell? ⟨H.b,0,none⟩=some (.slice ra rn rc)∧w.cell? ⟨H.b,1,none⟩=some (.slice la L.length lc)∧SlV Rg.cells 3 w No ra rn rc R∧SlV PgE.cells 2 w No la L.length lc (prL H L):=by
 obtain ⟨ra,rn,rc,la,lc,h1,h2,h3⟩:=p.row
 exact ⟨ra,rn,rc,la,lc,cell_of_row w _ _ _ _ _ h1,cell_of_row w _ _ _ _ _ h1,h2,h3⟩
theorem pge_at {w:World} {No:Nat→Prop} {H:PrH} {la:Option Addr} {lc n:Nat} {L:List (Int × List Int)} (h:SlV PgE.cells 2 w No la n lc (prL H L)) {k:Nat} {x:Int × List Int} (hx:L[k]?=some x) :
  ∃ b o,la=some ⟨b,o,none⟩∧w.cell? ⟨b,o+k * 2,none⟩=some (.int .i64 x.1)∧w.cell? ⟨b,o+k * 2+1,none⟩=some (.slice (some ⟨H.q x.1,0,none⟩) x.2.length (H.cp x.1)):=by
 obtain ⟨b,o,e,hc⟩:=h.1.cell k (prE H x) (by unfold prL;rw [List.getElem?_map,hx];rfl)
 exact ⟨b,o,e,hc 0 _ rfl,hc 1 _ rfl⟩
set_option maxHeartbeats 1000000 in
theorem find18_any {w:World} {No:Nat→Prop} {H:PrH} {R:List Rg} {L:List (Int × List Int)} (p:PrIn w No H R L) (hs:SrtP L) (hl:L.length≤1000000) (n:Int) :
  Calls Tryz.prog 83 #[.pointer (some ⟨H.b,0,none⟩),.int .i64 n] w fun e w'=>e = .returned (.tuple #[.int .i64 (pos L n:Nat),.bool (kget L n).isSome])∧Below w.heap.size w w':=by
 obtain ⟨ra,rn,rc,la,lc,_,c1,_,h3⟩:=p.cell
 obtain ⟨NL,hNL⟩:∃ x,L.length=x:=⟨_,rfl⟩
 have hple:=pos_le L n
 rw [hNL] at hl c1 h3 hple
 obtain ⟨PN,hPN⟩:∃ x,pos L n=x:=⟨_,rfl⟩
 rw [hPN] at hple ⊢
 obtain ⟨KB,hKB⟩:∃ x,(kget L n).isSome=x:=⟨_,rfl⟩
 rw [hKB];have HKB:=Lib.hid hKB;have HPN:=Lib.hid hPN;have HNL:=Lib.hid hNL;have HS:=Lib.hid hs;have H3:=Lib.hid h3;clear p hNL hPN hKB hs h3
 go_enter Tryz.func83,Tryz.ntmps83
 go_wp2_with fail
 go_loop [6] (fun iv=>∃ k:Nat,k≤PN∧iv = .int .i64 k) (fun iv=>PN - (intOf iv).toNat)
 case atStart=>exact ⟨0,by omega,rfl⟩
 case round=>
  obtain ⟨k,hk,rfl⟩:=hrel
  by_cases hlt:k < PN
  ·obtain ⟨x,hx,hxn⟩:=pos_lt (L:=L) (n:=n) (k:=k) (by rw [HPN.out];exact hlt)
   obtain ⟨b,o,rfl,q0,q1⟩:=pge_at H3.out hx
   have dl:decide ((k:Int) < (NL:Int))=true:=decide_eq_true (by omega)
   have dx:decide (x.1 < n)=true:=decide_eq_true hxn
   obtain ⟨x1,x2⟩:=x
   replace q0:w.cell? ⟨b,o+k * 2,none⟩=some (.int .i64 x1):=q0
   replace dx:decide (x1 < n)=true:=dx
   replace hxn:x1 < n:=hxn
   clear hx q1;go_wp2_with fail
   go_round
   case rel=>exact ⟨k+1,by omega,by go_num⟩
   case measure=>simp [intOf] <;> omega
  ·have HE:Hid (k=PN):=by show _=_;omega
   by_cases hln:k < NL
   ·have dl:decide ((k:Int) < (NL:Int))=true:=decide_eq_true (by omega)
    obtain ⟨x,hx⟩:∃ x,L[k]?=some x:=⟨_,List.getElem?_eq_getElem (by have:=HNL.out;omega)⟩
    have hx':L[pos L n]?=some x:=by rw [HPN.out,← HE.out];exact hx
    have hge:=pos_at hx'
    have hkg:=pos_kget HS.out hx'
    obtain ⟨b,o,rfl,q0,q1⟩:=pge_at H3.out hx
    obtain ⟨x1,x2⟩:=x
    replace q0:w.cell? ⟨b,o+k * 2,none⟩=some (.int .i64 x1):=q0
    replace hge:¬ x1 < n:=hge
    have dx:decide (x1 < n)=false:=decide_eq_false hge
    have hkb:(x1 == n)=KB:=by
     rw [← HKB.out,hkg]
     by_cases e:x1=n
     ·rw [if_pos e];simpa using e
     ·rw [if_neg e];simpa using e
    clear hx hx' hkg q1;go_wp2_with fail;go_quiet (fail);go_wp2_with fail
    go_ret2
    exact ⟨by rw [HE.out];rfl,belowN (Below.refl _ _) _⟩
   ·have dl:decide ((k:Int) < (NL:Int))=false:=decide_eq_false (by omega)
    have hkb:KB=false:=by
     rw [← HKB.out,pos_none (by rw [HPN.out,HNL.out];have:=HE.out;omega)]
     rfl
    subst hkb;go_wp2_with fail;go_quiet (fail);go_wp2_with fail
    go_ret2
    exact ⟨by rw [HE.out];rfl,belowN (Below.refl _ _) _⟩
theorem tn_cell (w:World) (g i:Nat) (v:Value):Tn (fun k=>k=g) w (w.setCell ⟨g,i,none⟩ v):=⟨rfl,rfl,rfl,by simp,fun k _ hq=>heap_setCell_other w ⟨g,i,none⟩ k _ (fun e=>hq e)⟩
theorem pgSet_prL {H:PrH} {n:Int} {b b':List Int} (hl:b'.length=b.length):∀ {L:List (Int × List Int)},SrtP L→(n,b) ∈ L→prL H (pgSet L n b')=prL H L
 | [],_,h=>by cases h
 | x :: r,hs,hm=>by
  have h1:=(List.pairwise_cons.1 hs).1
  have h2:=(List.pairwise_cons.1 hs).2
  rw [pgSet]
  by_cases e1:n < x.1
  ·rcases List.mem_cons.1 hm with e | e
   ·rw [← e] at e1;exact absurd e1 (by simp)
   ·have:=h1 _ e;exact absurd this (by simp;omega)
  ·rw [if_neg e1]
   by_cases e2:n=x.1
   ·rw [if_pos e2]
    have e3:x=(n,b):=by
     rcases List.mem_cons.1 hm with e | e
     ·exact e.symm
     ·have:=h1 _ e;exact absurd this (by simp;omega)
    rw [e3]
    unfold prL
    rw [List.map_cons,List.map_cons]
    unfold prE
    simp only [hl]
   ·rw [if_neg e2]
    have e3:(n,b) ∈ r:=by
     rcases List.mem_cons.1 hm with e | e
     ·exact absurd (by rw [← e]) e2
     ·exact e
    have ih:=pgSet_prL hl h2 e3 (H:=H)
    unfold prL at ih ⊢
    rw [List.map_cons,List.map_cons,ih]
theorem PrH.own_set {H:PrH} {L:List (Int × List Int)} (hs:SrtP L) {n:Int} {b:List Int} {k:Nat} (h:H.own (pgSet L n b) k):k=H.q n∨H.own L k:=by
 rcases h with h | ⟨x,hx,hk⟩
 ·exact .inr (.inl h)
 ·rcases (pgSet_mem hs).1 hx with e | ⟨e,_⟩
  ·rw [e] at hk;exact .inl hk
  ·exact .inr (.inr ⟨x,e,hk⟩)
section
variable {w:World} {No:Nat→Prop} {H H':PrH} {R R':List Rg} {L L':List (Int × List Int)}
theorem PrIn.stored (p:PrIn w No H R L) (hs:SrtP L) {n:Int} {b:List Int} (hm:(n,b) ∈ L) (i:Nat) (x:Int) (hx:(Lit.int .u8 x).wf=true):PrIn (w.setCell ⟨H.q n,i,none⟩ (.int .u8 x)) No H R (pgSet L n (b.set i x)):=by
 have t:=tn_cell w (H.q n) i (.int .u8 x)
 have hn0:No (H.q n):=p.no _ (.inr ⟨_,hm,rfl⟩)
 obtain ⟨ra,rn,rc,la,lc,h1,h2,h3⟩:=p.row
 have el:=pgSet_prL (H:=H) (b':=b.set i x) (by simp) hs hm
 have en:(pgSet L n (b.set i x)).length=L.length:=by rw [← prL_len H,el,prL_len]
 have hq:∀ k,k=H.q n→No k:=fun k e=>by rw [e];exact hn0
 refine ⟨⟨ra,rn,rc,la,lc,?_,h2.tn t hq,?_⟩,fun y hy=>?_,fun y hy z hz e=>?_,fun y hy=>?_,fun k hk=>?_⟩
 ·rw [en];exact row_tn h1 t (fun e=>p.ne _ hm e.symm)
 ·rw [el,en];exact h3.tn t hq
 ·rcases (pgSet_mem hs).1 hy with e | ⟨e,hne⟩
  ·rw [e]
   have:=(p.pg _ hm).stored i x hx
   simpa using this
  ·exact owns_tn0 (p.pg y e) t (fun e2=>hne (p.inj y e _ hm e2))
 ·rcases (pgSet_mem hs).1 hy with e1 | ⟨e1,_⟩ <;> rcases (pgSet_mem hs).1 hz with e2 | ⟨e2,_⟩
  ·rw [e1,e2]
  ·rw [e1] at e ⊢;exact p.inj (n,b) hm z e2 e
  ·rw [e2] at e ⊢;exact p.inj y e1 (n,b) hm e
  ·exact p.inj y e1 z e2 e
 ·rcases (pgSet_mem hs).1 hy with e1 | ⟨e1,_⟩
  ·rw [e1];exact p.ne (n,b) hm
  ·exact p.ne y e1
 ·rcases PrH.own_set hs hk with e | e
  ·exact hq k e
  ·exact p.no k e
theorem PrIn.regd (p:PrIn w No H R L) {ra:Option Addr} {rn rc:Nat} (h:SlV Rg.cells 3 w No ra rn rc R'):PrIn (w.setCell ⟨H.b,0,none⟩ (.slice ra rn rc)) No H R' L:=by
 have t:=tn_cell w H.b 0 (.slice ra rn rc)
 have hq:∀ k,k=H.b→No k:=fun k e=>by rw [e];exact p.no _ (.inl rfl)
 obtain ⟨ra',rn',rc',la,lc,h1,h2,h3⟩:=p.row
 refine ⟨⟨ra,rn,rc,la,lc,?_,h.tn t hq,h3.tn t hq⟩,fun y hy=>owns_tn0 (p.pg y hy) t (fun e=>p.ne y hy e),p.inj,p.ne,p.no⟩
 rw [heap_setCell_same w H.b 0 _ _ _ h1];rfl
theorem PrIn.listed (p:PrIn w No H R L) (hb:H'.b=H.b) {la:Option Addr} {ln lc:Nat} (hln:ln=L'.length) (hsl:SlV PgE.cells 2 w No la ln lc (prL H' L'))
  (hpg:∀ x ∈ L',Owns .u8 5 w 0 (.slice (some ⟨H'.q x.1,0,none⟩) x.2.length (H'.cp x.1)) x.2) (inj:∀ x ∈ L',∀ y ∈ L',H'.q x.1=H'.q y.1→x.1=y.1) (ne:∀ x ∈ L',H'.q x.1 ≠ H.b) (no:∀ x ∈ L',No (H'.q x.1)) :
  PrIn (w.setCell ⟨H.b,1,none⟩ (.slice la ln lc)) No H' R L':=by
 subst hln
 have t:=tn_cell w H.b 1 (.slice la L'.length lc)
 have hq:∀ k,k=H.b→No k:=fun k e=>by rw [e];exact p.no _ (.inl rfl)
 obtain ⟨ra,rn,rc,la',lc',h1,h2,h3⟩:=p.row
 refine ⟨⟨ra,rn,rc,la,lc,?_,h2.tn t hq,hsl.tn t hq⟩,fun y hy=>owns_tn0 (hpg y hy) t (fun e=>ne y hy e),inj,fun y hy=>by rw [hb];exact ne y hy,fun k hk=>?_⟩
 ·rw [hb,heap_setCell_same w H.b 1 _ _ _ h1]
  rfl
 ·rcases hk with e | ⟨x,hx,e⟩
  ·rw [e,hb];exact p.no _ (.inl rfl)
  ·rw [e];exact no x hx
end
theorem wp_appS_all {α:Type} {m:α→List Value} {k:Nat} {e:TypeId} {P:Program} {T bytes:Nat} {z:Value} {o:Oper} {t:Array Value} {ds:List Deferred} {K:Act→World→Prop} {Q:Exit→Act→World→Prop} (C:Cellular m k) (hT:P.underlying T=some (.slice e)) (hI:(P.info? e).map (fun i=>(i.zero,i.size,i.bytes))=some (some z,k,bytes)) (hzc:z.cells.size=k) (hby:bytes≤128) (d:Tmp) (hd:o.dst=some d) (s x:Operand)
  (ho:o.op = .call { callee:=.builtin .append,args:=#[s,x],argTypes:=#[T,T] }) {w:World} (base:Nat) (v:Value) (L:List α) (hs:(Act.mk t ds).eval s=v) (hown:OwnsS m k e w base v L)
  (b:Option Addr) (n c:Nat) (M:List α) (hx:(Act.mk t ds).eval x = .slice b n c) (hrd:RdS m k w b n c M) (hlen:L.length+n≤1000000000000) (hbase:base≤w.heap.size)
  (hK:∀ v' w',OwnsS m k e w' base v' (L ++ M)→Grows w v w' v'→K ⟨t.setIfInBounds d v',ds⟩ w'):Oper.wp P o ⟨t,ds⟩ w K Q:=by
 obtain ⟨v',w',hr,h1,h2⟩:=run_appS_all (P:=P) C hT hI hzc hby o.type w base v L hown b n c M hrd hlen hbase
 refine wp_of_run d hd (v:=v') (w':=w') ?_ (hK v' w' h1 h2)
 unfold execOp
 simp only [ho,resolve,invoke,builtin,Sem.run_bind,Sem.run_pure,Result.andThen_ok,List.map_toArray,List.map_cons,List.map_nil,hs,hx,hr]
/-- A page set where none is: its place. -/
theorem pgSet_ins {n:Int} {b:List Int}:∀ {L:List (Int × List Int)},SrtP L→kget L n=none→pgSet L n b=L.take (pos L n) ++ (n,b) :: L.drop (pos L n)
 | [],_,_=>by simp [pgSet,pos]
 | x :: r,hs,hk=>by
  have h1:=List.pairwise_cons.1 hs
  have hne:x.1 ≠ n:=fun e=>kget_no hk x (List.mem_cons_self ..) e
  rw [pgSet]
  by_cases e1:n < x.1
  ·rw [if_pos e1]
   have:pos (x :: r) n=0:=by unfold pos;rw [List.takeWhile_cons_of_neg (by simp;omega)];rfl
   rw [this];rfl
  ·rw [if_neg e1,if_neg (fun e=>hne e.symm)]
   have:pos (x :: r) n=pos r n+1:=by unfold pos;rw [List.takeWhile_cons_of_pos (by simp;omega)];rfl
   rw [this,List.take_succ_cons,List.drop_succ_cons,List.cons_append,pgSet_ins h1.2 (kget_none (fun p hp=>kget_no hk p (List.mem_cons_of_mem _ hp)))]
theorem pgSet_len {n:Int} {b:List Int} {L:List (Int × List Int)} (hs:SrtP L) (hk:kget L n=none):(pgSet L n b).length=L.length+1:=by
 have h1:=pos_le L n
 rw [pgSet_ins hs hk]
 simp
 omega
def PrH.put (H:PrH) (n:Int) (g c:Nat):PrH:=⟨H.b,upd H.q n g,upd H.cp n c⟩
theorem prL_ins (H:PrH) {n:Int} {b:List Int} {g c:Nat} {L:List (Int × List Int)} (hs:SrtP L) (hk:kget L n=none):prL (H.put n g c) (pgSet L n b)=(prL H L).take (pos L n) ++ ⟨n,g,b.length,c⟩ :: (prL H L).drop (pos L n):=by
 rw [pgSet_ins hs hk]
 unfold prL
 have he:∀ x ∈ L,prE (H.put n g c) x=prE H x:=fun x hx=>by
  have hne:=kget_no hk x hx
  unfold prE PrH.put
  simp only
  rw [upd_other _ _ hne,upd_other _ _ hne]
 rw [List.map_append,List.map_cons,← List.map_take,← List.map_drop,List.map_congr_left (fun x hx=>he x (List.mem_of_mem_take hx)),List.map_congr_left (fun x hx=>he x (List.mem_of_mem_drop hx))]
 congr 2
 unfold prE PrH.put
 simp only
 rw [upd_same,upd_same]
theorem PrIn.inserted {w:World} {No:Nat→Prop} {H:PrH} {R:List Rg} {L:List (Int × List Int)} (p:PrIn w No H R L) (hs:SrtP L) {n:Int} {b:List Int} (hk:kget L n=none) {g c ln lc:Nat} {la:Option Addr} (hln:ln=L.length+1)
  (hsl:SlV PgE.cells 2 w No la ln lc ((prL H L).take (pos L n) ++ [⟨n,g,b.length,c⟩] ++ (prL H L).drop (pos L n))) (hg:Owns .u8 5 w 0 (.slice (some ⟨g,0,none⟩) b.length c) b) (hng:No g) (ho:¬ H.own L g) :
  PrIn (w.setCell ⟨H.b,1,none⟩ (.slice la ln lc)) No (H.put n g c) R (pgSet L n b):=by
 have q1:(H.put n g c).q n=g:=upd_same _ _ _
 have q2:∀ x ∈ L,(H.put n g c).q x.1=H.q x.1:=fun x hx=>upd_other _ _ (kget_no hk x hx)
 have c1:(H.put n g c).cp n=c:=upd_same _ _ _
 have c2:∀ x ∈ L,(H.put n g c).cp x.1=H.cp x.1:=fun x hx=>upd_other _ _ (kget_no hk x hx)
 have hm:∀ x ∈ pgSet L n b,x=(n,b)∨x ∈ L:=fun x hx=>((pgSet_mem hs).1 hx).imp id And.left
 have hneq:∀ x ∈ L,H.q x.1 ≠ g:=fun x hx e=>ho (.inr ⟨x,hx,e.symm⟩)
 refine p.listed (H':=H.put n g c) rfl (by rw [hln,pgSet_len hs hk]) (by rw [prL_ins H hs hk];simpa using hsl) (fun x hx=>?_) (fun x hx y hy e=>?_) (fun x hx=>?_) (fun x hx=>?_)
 ·rcases hm x hx with e | e
  ·rw [e];show Owns _ _ _ _ (.slice (some ⟨(H.put n g c).q n,0,none⟩) b.length ((H.put n g c).cp n)) b;rw [q1,c1];exact hg
  ·rw [q2 x e,c2 x e];exact p.pg x e
 ·rcases hm x hx with e1 | e1 <;> rcases hm y hy with e2 | e2
  ·rw [e1,e2]
  ·rw [e1] at e;rw [q2 y e2] at e;rw [show (H.put n g c).q (n,b).1=g from q1] at e;exact absurd e.symm (hneq y e2)
  ·rw [e2] at e;rw [q2 x e1] at e;rw [show (H.put n g c).q (n,b).1=g from q1] at e;exact absurd e (hneq x e1)
  ·rw [q2 x e1,q2 y e2] at e;exact p.inj x e1 y e2 e
 ·rcases hm x hx with e | e
  ·rw [e];show (H.put n g c).q n ≠ H.b;rw [q1];exact fun e=>ho (.inl e)
  ·rw [q2 x e];exact p.ne x e
 ·rcases hm x hx with e | e
  ·rw [e];show No ((H.put n g c).q n);rw [q1];exact hng
  ·rw [q2 x e];exact p.no _ (.inr ⟨x,e,rfl⟩)
theorem PrH.own_put {H:PrH} {L:List (Int × List Int)} (hs:SrtP L) {n:Int} {b:List Int} {g c k:Nat} (h:(H.put n g c).own (pgSet L n b) k):k=g∨H.own L k:=by
 rcases h with e | ⟨x,hx,e⟩
 ·exact .inr (.inl e)
 ·rcases (pgSet_mem hs).1 hx with e1 | ⟨e1,hne⟩
  ·rw [e1] at e;left;rw [e];exact upd_same _ _ _
  ·right;right;exact ⟨x,e1,by rw [e];exact upd_other _ _ hne⟩
/-- A row of structs that is owned: its block's kind. -/
theorem OwnsS.kind {α:Type} {m:α→List Value} {k:Nat} {e:TypeId} {w:World} {base:Nat} {v:Value} {L:List α} (h:OwnsS m k e w base v L):∀ g,room v=some g→base≤g∧∃ cur,w.heap[g]?=some (.cells cur e (0,0)):=by
 intro g hg
 rcases h with ⟨_,a,hv,_⟩ | ⟨_,⟨hv,_⟩ | ⟨g',cap,cur,hv,hb,hh,_⟩⟩
 ·rw [hv,room_empty] at hg;cases hg
 ·rw [hv] at hg;cases hg
 ·have h1:=room_some hg
  rw [hv] at h1
  injection h1 with h1
  rw [← h1]
  exact ⟨hb,cur,hh⟩
theorem Owns.kind {k:IntKind} {e:TypeId} {w:World} {base:Nat} {g n c:Nat} {l:List Int} (h:Owns k e w base (.slice (some ⟨g,0,none⟩) n c) l) (hc:0 < c):∃ cur,w.heap[g]?=some (.cells cur e (0,0)):=by
 obtain ⟨_,h⟩:=h
 rcases h with ⟨_,a,hv,_⟩ | ⟨_,⟨hv,_⟩ | ⟨g',cap,cur,hv,hb,hh,_⟩⟩
 ·injection hv with _ _ e3;omega
 ·cases hv
 ·injection hv with e1
  injection e1 with e1
  injection e1 with e1
  rw [e1]
  exact ⟨cur,hh⟩
theorem kinds_ne {w:World} {g g':Nat} {e e':TypeId} {c c':Array Value} (h:w.heap[g]?=some (.cells c e (0,0))) (h':w.heap[g']?=some (.cells c' e' (0,0))) (hne:e ≠ e'):g ≠ g':=by
 intro eq;rw [eq,h'] at h
 injection h with h
 injection h with _ h
 exact hne h.symm
theorem RdS.front {α:Type} {m:α→List Value} {k:Nat} {w:World} {a:Option Addr} {n c:Nat} {L:List α} (h:RdS m k w a n c L) (q:Nat) (hq:q≤n):RdS m k w a q c (L.take q):=
 ⟨by rw [List.length_take,h.len];omega,Nat.le_trans hq h.cap,h.max,fun i x hx=>h.cell i x (by
  have h1:=(List.getElem?_eq_some_iff.1 hx).1
  rw [List.length_take] at h1;rw [List.getElem?_take_of_lt (by omega)] at hx
  exact hx),h.void⟩
theorem rds_pkI {α:Type} {m:α→List Value} {kk:Nat} {w:World} {ad:Addr} {n c:Nat} {L:List α} (h:RdS m kk w (some ad) n c L) (k:Nat) (hk:k≤n):RdS m kk w (pkI c k (some ad) (some (ad.add (k * kk)))) (n - k) (c - k) (L.drop k):=by
 have hcap:=h.cap
 have hmax:=h.max
 have hl:=h.len
 unfold pkI
 by_cases hc:c=k
 ·rw [if_pos hc]
  rw [show n - k=0 by omega,show c - k=0 by omega,List.drop_of_length_le (by omega)]
  exact ⟨rfl,Nat.le_refl _,by unfold maxLen;omega,fun i x hx=>(by cases hx),fun h=>(by cases h)⟩
 ·rw [if_neg hc]
  refine ⟨by rw [List.length_drop,hl],by omega,by omega,fun i x hx=>?_,fun h=>(by cases h)⟩
  rw [List.getElem?_drop] at hx
  obtain ⟨b',o',e,hcell⟩:=h.cell (k+i) x hx
  injection e with e
  subst e
  refine ⟨b',o'+k * kk,by rw [Addr.add_lit],fun j u hu=>?_⟩
  rw [← hcell j u hu,Nat.add_mul]
  congr 2
  omega
theorem pgT:Tryz.prog.underlying 108=some (.slice 112):=Tryz.underlying108
theorem pg_kinds:112 ≠ (5:TypeId):=by decide
theorem rg_kinds:94 ≠ (112:TypeId):=by decide
theorem u8_kinds:5 ≠ (112:TypeId):=by decide
theorem pr_kinds:110 ≠ (112:TypeId):=by decide
theorem rgp_kinds:94 ≠ (110:TypeId):=by decide
theorem u8p_kinds:5 ≠ (110:TypeId):=by decide
theorem pgp_kinds:112 ≠ (110:TypeId):=by decide
/-- What lies in a row of another kind stays while a row is written. -/
theorem Owns.keepK {k:IntKind} {e e':TypeId} {w w':World} {base g n c:Nat} {l:List Int} {row:Option Nat} (h:Owns k e w base (.slice (some ⟨g,0,none⟩) n c) l) (hn:0 < n) (hg:w.grownBy w' row) (hr:∀ y,row=some y→∃ cur,w.heap[y]?=some (.cells cur e' (0,0))) (hne:e ≠ e'):Owns k e w' base (.slice (some ⟨g,0,none⟩) n c) l:=by
 refine h.grown hg (fun y hy e2=>?_)
 obtain ⟨c1,h1⟩:=h.kind (Nat.lt_of_lt_of_le hn h.rd.cap)
 obtain ⟨c2,h2⟩:=hr y e2.symm
 have h3:=room_some hy
 injection h3 with h3
 exact kinds_ne h1 h2 hne h3
theorem OwnsS.keepK {α:Type} {m:α→List Value} {k:Nat} {e e':TypeId} {w w':World} {base:Nat} {v:Value} {L:List α} {row:Option Nat} (h:OwnsS m k e w base v L) (hg:w.grownBy w' row) (hr:∀ y,row=some y→∃ cur,w.heap[y]?=some (.cells cur e' (0,0))) (hne:e ≠ e'):OwnsS m k e w' base v L:=by
 refine h.grown hg (fun y hy e2=>?_)
 obtain ⟨_,c1,h1⟩:=h.kind y hy
 obtain ⟨c2,h2⟩:=hr y e2.symm
 exact kinds_ne h1 h2 hne rfl
theorem row_keepK {w w':World} {b:Nat} {cs:Array Value} {e e':TypeId} {row:Option Nat} (h:w.heap[b]?=some (.cells cs e (0,0))) (hg:w.grownBy w' row) (hr:∀ y,row=some y→∃ cur,w.heap[y]?=some (.cells cur e' (0,0))) (hne:e ≠ e'):w'.heap[b]?=some (.cells cs e (0,0)):=by
 rw [hg.block b (Array.getElem?_eq_some_iff.1 h).1 (fun e2=>by
  obtain ⟨c2,h2⟩:=hr b e2.symm
  exact kinds_ne h h2 hne rfl)]
 exact h
theorem pgSet_at {n:Int} {b:List Int} {L:List (Int × List Int)} (hs:SrtP L) (hk:kget L n=none):(pgSet L n b)[pos L n]?=some (n,b):=by
 have h1:=pos_le L n
 rw [pgSet_ins hs hk,List.getElem?_append_right (by rw [List.length_take];omega),List.length_take]
 rw [show pos L n - min (pos L n) L.length=0 by omega]
 rfl
theorem rds_none {α:Type} {m:α→List Value} {kk:Nat} {w:World} {n c:Nat} {L:List α} (h:RdS m kk w none n c L) (k:Nat):RdS m kk w none (n - k) (c - k) (L.drop k):=by
 have h1:=h.void rfl
 have h2:=h.cap
 have h3:=h.len
 subst h1
 obtain rfl:n=0:=by omega
 obtain rfl:L=[]:=List.eq_nil_of_length_eq_zero h3
 rw [Nat.zero_sub,List.drop_nil]
 exact h
section
variable {No:Nat→Prop} {h:RmH} {st:Mc} {w:World}
set_option maxHeartbeats 1000000 in
theorem stretch_any (i:RmIn w No h st) (k n:Int) (hk:(Lit.int .i64 k).wf=true) (hn:(Lit.int .i64 n).wf=true) :
  Calls Tryz.prog 88 #[.pointer (some ⟨h.m,0,none⟩),.int .i64 k,.int .i64 n] w fun e w'=>e = .returned (.bool (strB st.c k n))∧Below w.heap.size w w':=by
 obtain ⟨_,_,_,c8,_,_⟩:=i.cells
 have hps:=i.ok.cf.pages
 have hk1:=wf_i64_bd hk
 have hn1:=wf_i64_bd hn
 have hS:strB st.c k n=decide (1≤n∧0≤k∧n≤st.c.pages∧k≤st.c.pages - n):=rfl
 obtain ⟨PG,hPG⟩:∃ x,st.c.pages=x:=⟨_,rfl⟩
 rw [hPG] at c8 hps hS
 obtain ⟨SB,hSB⟩:∃ x,strB st.c k n=x:=⟨_,rfl⟩
 rw [hSB] at hS ⊢;clear i hk hn hPG hSB
 by_cases e0:0≤k
 rotate_left
 ·have d0:decide (0≤k)=false:=decide_eq_false e0
  obtain rfl:SB=false:=by rw [hS];simp;omega
  clear hS e0
  go_enter Tryz.func88,Tryz.ntmps88
  go_wp2
  go_ret
  exact ⟨rfl,Below.refl _ _⟩
 have d0:decide (0≤k)=true:=decide_eq_true e0
 by_cases e1:1≤n
 rotate_left
 ·have d1:decide (1≤n)=false:=decide_eq_false e1
  obtain rfl:SB=false:=by rw [hS];simp;omega
  clear hS e1
  go_enter Tryz.func88,Tryz.ntmps88
  go_wp2
  go_ret
  exact ⟨rfl,Below.refl _ _⟩
 have d1:decide (1≤n)=true:=decide_eq_true e1
 by_cases e2:k≤PG
 rotate_left
 ·have d2:decide (k≤PG)=false:=decide_eq_false e2
  obtain rfl:SB=false:=by rw [hS];simp;omega
  clear hS e2
  go_enter Tryz.func88,Tryz.ntmps88
  go_wp2
  go_ret
  exact ⟨rfl,Below.refl _ _⟩
 have d2:decide (k≤PG)=true:=decide_eq_true e2
 have hpk:PG - k≤65536:=by omega
 have hpk0:0≤PG - k:=by omega
 by_cases e3:n≤PG - k
 rotate_left
 ·have d3:decide (n≤PG - k)=false:=decide_eq_false e3
  obtain rfl:SB=false:=by rw [hS];simp;omega
  clear hS e3
  go_enter Tryz.func88,Tryz.ntmps88
  go_wp2
  go_ret
  exact ⟨rfl,Below.refl _ _⟩
 have d3:decide (n≤PG - k)=true:=decide_eq_true e3
 obtain rfl:SB=true:=by rw [hS];simp;omega
 clear hS
 go_enter Tryz.func88,Tryz.ntmps88
 go_wp2
 go_ret
 exact ⟨rfl,Below.refl _ _⟩
end
end Go.Proofs.YtnbjodoajfkekaaGreat
