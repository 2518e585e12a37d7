/- region: Pieces: the iterator's contract. -/
import Derived.Test.YtoepnbfifjgpfaaGreatMu4
import Derived.RangeFuncNested
import Derived.RangeFuncBound
import Derived.RangeFuncCalls
import Derived.RangeFuncLeaves
import Derived.RangeFuncBox
import Derived.Shelf.Abstract
import Derived.OwnWalkIn
import Derived.TacticsInMore
import Derived.LoopNIn
import Derived.LoopIn
namespace Go.Proofs.YtoepnbfifjgpfaaGreat
set_option maxRecDepth 100000
open Go.RowKit Go.Shelf Go.Proofs
attribute [local go_sem] Oper.semAt_some
/-- What lies from block b on, below n₀, lies as it lay. -/
structure Amid (b n₀:Nat) (W W':World):Prop where
 size:W.heap.size≤W'.heap.size
 block:∀ k,b≤k→k < n₀→W'.heap[k]?=W.heap[k]?
theorem Amid.refl (b n₀:Nat) (W:World):Amid b n₀ W W:=⟨Nat.le_refl _,fun _ _ _=>rfl⟩
theorem Amid.trans {b n₀:Nat} {A B C:World} (h:Amid b n₀ A B) (k:Amid b n₀ B C):Amid b n₀ A C:=⟨Nat.le_trans h.size k.size,fun i h1 h2=>(k.block i h1 h2).trans (h.block i h1 h2)⟩
theorem Amid.below {b n₀ m:Nat} {W W':World} (h:Below m W W') (hm:n₀≤m):Amid b n₀ W W':=⟨h.size,fun k _ hk=>h.block k (Nat.lt_of_lt_of_le hk hm)⟩
theorem Amid.alloc {b n₀:Nat} {A W:World} (h:Amid b n₀ A W) (hn:n₀≤W.heap.size) (o:Obj):Amid b n₀ A (W.alloc o):=h.trans (Amid.below (below_a W o) hn)
theorem Amid.setCell {b n₀:Nat} {A W:World} (h:Amid b n₀ A W) (p:Addr) (hp:p.block < b∨n₀≤p.block) (v:Value):Amid b n₀ A (W.setCell p v):=
 h.trans ⟨by simp,fun k h1 h2=>Below.heap_setCell W p v k (by omega)⟩
theorem amid_b {b n₀ m:Nat} (hm:n₀≤m):∀ (W:World) (l:Nat) (o o':Obj),m≤l→W.heap[l]?=some o→o.isCells=false→o.isWalk=false→Amid b n₀ W (W.putObj l o'):=
 fun W l o o' hl _ _ _=>⟨by simp,fun k _ h2=>World.putObj_heap_other (by omega)⟩
/-- What Pieces' closure has captured. -/
structure PcAt (W:World) (b:Nat) (v:Value) (lo hi:Int):Prop where
 l:Boxed W b 77 v
 lo:Boxed W (b+1) 3 (.int .i64 lo)
 hi:Boxed W (b+2) 3 (.int .i64 hi)
theorem PcAt.below {W W':World} {b n₀:Nat} {v:Value} {lo hi:Int} (h:PcAt W b v lo hi) (hb:Below n₀ W W') (hn:b+2 < n₀):PcAt W' b v lo hi:=
 ⟨(hb.block b (by omega)).trans h.l,(hb.block (b+1) (by omega)).trans h.lo,(hb.block (b+2) hn).trans h.hi⟩
theorem PcAt.mid {W W':World} {b n₀:Nat} {v:Value} {lo hi:Int} (h:PcAt W b v lo hi) (hb:Amid b n₀ W W') (hn:b+2 < n₀):PcAt W' b v lo hi:=
 ⟨(hb.block b (by omega) (by omega)).trans h.l,(hb.block (b+1) (by omega) (by omega)).trans h.lo,(hb.block (b+2) (by omega) hn).trans h.hi⟩
theorem RdS.midAt {α:Type} {m:α→List Value} {k b0 n₀:Nat} {W W':World} {a:Option Addr} {n c:Nat} {L:List α} (h:RdS m k W a n c L) (hb:Amid b0 n₀ W W') (ha:∀ x,a=some x→0 < n→b0≤x.block∧x.block < n₀):RdS m k W' a n c L:=
 ⟨h.len,h.cap,h.max,fun i x hx=>by
  obtain ⟨b,o,e,hc⟩:=h.cell i x hx
  have ⟨h1,h2⟩:=ha ⟨b,o,none⟩ e (by have:=(List.getElem?_eq_some_iff.1 hx).1;have:=h.len;omega)
  exact ⟨b,o,e,fun j u hu=>by rw [← hc j u hu];exact World.cell?_of_block (a:=⟨b,o+i * k+j,none⟩) (hb.block b h1 h2)⟩,h.void⟩
theorem RdS.belowAt {α:Type} {m:α→List Value} {k n₀:Nat} {W W':World} {a:Option Addr} {n c:Nat} {L:List α} (h:RdS m k W a n c L) (hb:Below n₀ W W') (ha:∀ x,a=some x→0 < n→x.block < n₀):RdS m k W' a n c L:=
 ⟨h.len,h.cap,h.max,fun i x hx=>by
  obtain ⟨b,o,e,hc⟩:=h.cell i x hx
  exact ⟨b,o,e,fun j u hu=>by rw [← hc j u hu];exact hb.cell (p:=⟨b,o+i * k+j,none⟩) (ha ⟨b,o,none⟩ e (by have:=(List.getElem?_eq_some_iff.1 hx).1;have:=h.len;omega))⟩,h.void⟩
theorem piecesL_append (l m:List Rg) (lo hi:Int):piecesL (l ++ m) lo hi=piecesL l lo hi ++ piecesL m lo hi:=by
 unfold piecesL
 rw [List.map_append,List.filter_append]
theorem pieces_snoc {L:List Rg} {k:Nat} {r:Rg} (h:L[k]?=some r) (lo hi:Int):piecesL (L.take (k+1)) lo hi=piecesL (L.take k) lo hi ++ piecesL [r] lo hi∧piecesL L lo hi=piecesL (L.take k) lo hi ++ (piecesL [r] lo hi ++ piecesL (L.drop (k+1)) lo hi):=by
 refine ⟨by rw [List.take_add_one,h,← piecesL_append];rfl,?_⟩
 rw [← piecesL_append,← piecesL_append,← show L.drop k=[r] ++ L.drop (k+1) from drop_at h,List.take_append_drop]
set_option linter.unusedSimpArgs false in
set_option linter.unusedVariables false in
set_option maxHeartbeats 2000000 in
theorem pieces1_in (F:Fence) (n:Nat) (hf:F.fn 115) (hro:F.round=none) (hn:1≤n) (l b n₀ len cap:Nat) (a:Option Addr) (L:List Rg) (lo hi:Int) (hlen:len≤1000) (hb:b+2 < n₀) (ha:∀ x,a=some x→0 < len→b≤x.block∧x.block < n₀) (J Jx:List Rg→World→Prop)
  (hJ:∀ s W o,J s W→J s (W.alloc o))
  (hY:∀ pre x W,J pre W→pre.length < (piecesL L lo hi).length→YieldAt F (n - 1) Tryz.prog l #[x.val] W fun e W'=>
   (e = .returned (.bool true)∧J (pre ++ [x]) W'∧Amid b n₀ W W')∨(e = .returned (.bool false)∧Jx (pre ++ [x]) W'))
  (W:World) (hP:PcAt W b (.slice a len cap) lo hi) (hR:RdS Rg.cells 3 W a len cap L) (hWn:n₀≤W.heap.size) (h0:J [] W) :
  CallsIn F n Tryz.prog 115 #[.func (.yield l) #[] #[],.pointer (some ⟨b,0,none⟩),.pointer (some ⟨b+1,0,none⟩),.pointer (some ⟨b+2,0,none⟩)] W fun e W'=>(∃ v,e = .returned v) ∧
   ((∃ ys,ys=piecesL L lo hi∧J ys W')∨(∃ pre,pre <+: piecesL L lo hi∧Jx pre W')):=by
 have HP:=Lib.hid hP;have HR:=Lib.hid hR
 have q0:=hP.l.cell
 clear hP hR
 refine callsIn_of_wp Tryz.func115 rfl hf ?_ hro
 simp only [Tryz.ntmps115,List.size_toArray,List.length_cons,List.length_nil,Nat.reduceAdd,Nat.reduceSub,Array.replicate_succ,Array.replicate_zero,List.push_toArray,List.append_toArray,List.nil_append,List.cons_append]
 gi_wp2
 clear q0
 gi_loopw [10] (fun i wr=>∃ k:Nat,k≤len∧i = .int .i64 k∧Hid (J (piecesL (L.take k) lo hi) wr∧Amid b n₀ W wr)) (fun i _=>len - (intOf i).toNat)
 case atStart=>exact ⟨0,Nat.zero_le _,rfl,h0,Amid.refl _ _ _⟩
 case round=>
  obtain ⟨k,hk,rfl,hh⟩:=hrel
  obtain ⟨h1,h2⟩:=hh.out
  have HJ:=Lib.hid h1;have B:=Lib.hid h2
  have P2:=HP.out.mid h2 hb
  have c1:=P2.lo.cell
  have c2:=P2.hi.cell
  have hsz:=Nat.le_trans hWn h2.size
  have hl1:=P2.l.lt
  have hl2:=P2.lo.lt
  have hl3:=P2.hi.lt
  clear hh h1 h2 P2
  by_cases hlt:k < len
  ·have hl:=HR.out.len
   obtain ⟨r,hr⟩:∃ r,L[k]?=some r:=⟨L[k],List.getElem?_eq_getElem (by omega)⟩
   obtain ⟨g,o,he,z0,z1,z2⟩:=(HR.out.midAt B.out ha).three k r hr
   subst he
   have HS:=Lib.hid (pieces_snoc hr lo hi)
   obtain ⟨rlo,rhi,rp⟩:=r
   obtain ⟨XL,hXL⟩:∃ x,(if rlo < lo then lo else rlo)=x:=⟨_,rfl⟩
   obtain ⟨XH,hXH⟩:∃ x,(if hi < rhi then hi else rhi)=x:=⟨_,rfl⟩
   have hc:clipR lo hi ⟨rlo,rhi,rp⟩=⟨XL,XH,rp⟩:=by
    unfold clipR
    rw [← hXL,← hXH]
    refine Rg.ext' ?_ ?_ rfl
    ·show max rlo lo=if rlo < lo then lo else rlo
     by_cases h:rlo < lo
     ·rw [if_pos h];omega
     ·rw [if_neg h];omega
    ·show min rhi hi=if hi < rhi then hi else rhi
     by_cases h:hi < rhi
     ·rw [if_pos h];omega
     ·rw [if_neg h];omega
   have HC:=Lib.hid hc;clear hr hl hc
   by_cases hx:XL < XH
   ·have HO:Hid (piecesL [⟨rlo,rhi,rp⟩] lo hi=[⟨XL,XH,rp⟩]):=by
     show _=_
     unfold piecesL
     rw [List.map_cons,List.map_nil,HC.out,List.filter_cons_of_pos (by simpa using hx)];rfl
    have hJ5:=hJ _ _ (.cells #[.int .i64 XL,.int .i64 XH,.int .i64 rp] 110) (hJ _ _ (.cells #[.int .i64 rlo,.int .i64 rhi,.int .i64 rp] 110) HJ.out)
    obtain ⟨fn,tmps,assign,body,hy,hR⟩:=hY _ ⟨XL,XH,rp⟩ _ hJ5 (by rw [HS.out.2,HO.out];simp)
    have HR2:=Lib.hid hR
    have B5:Hid (Amid b n₀ W ((wr.alloc (.cells #[.int .i64 rlo,.int .i64 rhi,.int .i64 rp] 110)).alloc (.cells #[.int .i64 XL,.int .i64 XH,.int .i64 rp] 110))):=(B.out.alloc hsz _).alloc (by simp;omega) _
    clear hJ5 hR
    dsimp only [Rg.val] at hy
    gi_wp2
    refine HR2.out.mono ?_
    rintro e W3 (⟨rfl,hJ3,hk3⟩ | ⟨rfl,hJx3⟩)
    ·have HJ3:=Lib.hid hJ3
     have HK3:=Lib.hid hk3;clear hJ3 hk3
     gi_wp2
     go_roundw
     case rel=>exact ⟨k+1,by omega,by go_num,by rw [HS.out.1,HO.out];exact HJ3.out,B5.out.trans HK3.out⟩
     case measure=>simp [intOf] <;> omega
    ·have HJ3:=Lib.hid hJx3
     clear hJx3
     gi_wp2
     refine bodyPost_ret (results_none rfl _ _ _) rfl ?_
     exact ⟨⟨_,rfl⟩,.inr ⟨_,by rw [HS.out.2,HO.out,← List.append_assoc];exact List.prefix_append _ _,HJ3.out⟩⟩
   ·have HO:Hid (piecesL [⟨rlo,rhi,rp⟩] lo hi=[]):=by
     show _=_
     unfold piecesL
     rw [List.map_cons,List.map_nil,HC.out,List.filter_cons_of_neg (by simpa using hx)];rfl
    have hJ5:=hJ _ _ (.cells #[.int .i64 XL,.int .i64 XH,.int .i64 rp] 110) (hJ _ _ (.cells #[.int .i64 rlo,.int .i64 rhi,.int .i64 rp] 110) HJ.out)
    have HJ5:=Lib.hid hJ5
    have B5:Hid (Amid b n₀ W ((wr.alloc (.cells #[.int .i64 rlo,.int .i64 rhi,.int .i64 rp] 110)).alloc (.cells #[.int .i64 XL,.int .i64 XH,.int .i64 rp] 110))):=(B.out.alloc hsz _).alloc (by simp;omega) _
    clear hJ5
    gi_wp2
    refine ⟨fun _ h=>(by cases h),?_⟩
    gi_wp2
    go_roundw
    case rel=>exact ⟨k+1,by omega,by go_num,by rw [HS.out.1,HO.out,List.append_nil];exact HJ5.out,B5.out⟩
    case measure=>simp [intOf] <;> omega
  ·obtain rfl:k=len:=by omega
   have hl:=HR.out.len
   have e:L.take k=L:=List.take_of_length_le (by omega)
   rw [e] at HJ;clear hl e
   gi_wp2
   go_end0
   exact ⟨⟨_,rfl⟩,.inl ⟨_,rfl,HJ.out⟩⟩
/-- Pieces: the closure that is handed back, and what it has captured. -/
def GivesPieces (L:List Rg) (lo hi:Int) (w:World) (e:Ending) (w':World):Prop:=
 ∃ v,e = .returned (.func (.func 115) #[] #[.pointer (some ⟨w.heap.size,0,none⟩),.pointer (some ⟨w.heap.size+1,0,none⟩),.pointer (some ⟨w.heap.size+2,0,none⟩)])∧PcAt w' w.heap.size v lo hi∧OwnsS Rg.cells 3 110 w' w.heap.size v L∧Below w.heap.size w w'
set_option linter.unusedSimpArgs false in
set_option linter.unusedVariables false in
set_option maxHeartbeats 1000000 in
theorem pieces_any (a:Option Addr) (n c:Nat) (L:List Rg) (lo hi:Int) (w:World) (h:RdS Rg.cells 3 w a n c L) (hn:n≤1000) :
  Calls Tryz.prog 100 #[.slice a n c,.int .i64 lo,.int .i64 hi] w (GivesPieces L lo hi w):=by
 have hba:=below_a3 w (.cells #[.slice a n c] 77) (.cells #[.int .i64 lo] 3) (.cells #[.int .i64 hi] 3)
 have hP:PcAt (((w.alloc (.cells #[.slice a n c] 77)).alloc (.cells #[.int .i64 lo] 3)).alloc (.cells #[.int .i64 hi] 3)) w.heap.size (.slice a n c) lo hi:=
  ⟨((Boxed.new w _ _).alloc _).alloc _,by
   have:=(Boxed.new (w.alloc (.cells #[.slice a n c] 77)) 3 (.int .i64 lo)).alloc (.cells #[.int .i64 hi] 3)
   simpa using this,by
   have:=Boxed.new ((w.alloc (.cells #[.slice a n c] 77)).alloc (.cells #[.int .i64 lo] 3)) 3 (.int .i64 hi)
   simpa using this⟩
 obtain ⟨wa,hwa⟩:∃ wa,(((w.alloc (.cells #[.slice a n c] 77)).alloc (.cells #[.int .i64 lo] 3)).alloc (.cells #[.int .i64 hi] 3))=wa:=⟨_,rfl⟩
 obtain ⟨b,hb⟩:∃ b,w.heap.size=b:=⟨_,rfl⟩
 rw [hwa] at hba hP;rw [hb] at hP;have BA:=Lib.hid hba;have PA:=Lib.hid hP
 have H:=Lib.hid (h.below hba)
 have HWA:=Lib.hid hwa;have HB:=Lib.hid hb
 have q0:=hP.l.cell
 clear hba hP hwa hb h
 go_enter Tryz.func100,Tryz.ntmps100
 go_wp2_with (rw [HWA.out,HB.out])
 refine (cloneR_any a n c L wa H.out (by omega)).mono ?_
 rintro e w1 ⟨v,rfl,ho,hb1⟩
 obtain ⟨m,hm⟩:∃ m,L.length=m:=⟨_,rfl⟩
 obtain ⟨a1,c1,rfl⟩:=ho.shapeN m hm
 have P1:=Lib.hid (PA.out.below hb1 PA.out.hi.lt)
 have B1:=Lib.hid (Below.call BA.out hb1)
 have O1:=Lib.hid ho;have HS:=Lib.hid hb1.size
 have q1:=P1.out.l.cell
 have q2:=P1.out.l.frozen
 clear ho hb1 hm q0
 go_wp2
 go_ret
 have hlt:=PA.out.hi.lt
 refine ⟨.slice a1 m c1,by rw [HB.out];rfl,?_,?_,?_⟩
 ·rw [HB.out]
  exact ⟨P1.out.l.set _,P1.out.lo.other (by omega) _,P1.out.hi.other (by omega) _⟩
 ·refine OwnsS.grown (O1.out.mono (by rw [HB.out];omega)) (cell_grown1 _ _ _ _) (fun g hg e=>?_)
  injection e with e
  have:=(O1.out.at_base g hg).1
  omega
 ·exact Below.grown B1.out (cell_grown1 _ _ _ _) B1.out.size (fun k e=>by injection e with e;rw [← e,HB.out];exact Nat.le_refl _)
theorem pieces_stops (F:Fence) (n:Nat) (hf:F.fn 115) (hro:F.round=none) (hn:1≤n) (b n₀:Nat) (v:Value) (L:List Rg) (lo hi:Int) (w:World) (hl:L.length≤1000) (hP:PcAt w b v lo hi) (hO:OwnsS Rg.cells 3 110 w b v L) (hb:b+2 < n₀) (hn₀:n₀≤w.heap.size) (hv:∀ g,room v=some g→g < n₀) :
  SeqStopsK F n Tryz.prog 115 #[.pointer (some ⟨b,0,none⟩),.pointer (some ⟨b+1,0,none⟩),.pointer (some ⟨b+2,0,none⟩)] (fun x:Rg=>#[x.val]) (Amid b n₀) (fun ys=>ys=piecesL L lo hi) (fun pre=>pre <+: piecesL L lo hi) (piecesL L lo hi).length w:=fun l J Jx W hW hJ _ hY h0=>by
 obtain ⟨a,c,rfl⟩:=hO.shape
 have hR:=hO.rd rgC
 have hWn:=hW.mono hn₀
 refine pieces1_in F n hf hro hn l b n₀ L.length c a L lo hi hl hb (fun x hx h=>have e:=(?_:room _=some x.block);⟨(hO.at_base _ e).1,hv _ e⟩) J Jx (fun s W o hs=>hJ s W _ none hs (World.grownBy_alloc W o none) (fun r e=>by cases e)) hY W (hP.below hWn hb) (hR.belowAt hWn (fun x hx h=>hv _ ?_)) (Nat.le_trans hn₀ hW.size) h0
 ·rw [hx];exact if_neg (by have:=hR.cap;omega)
 ·rw [hx];exact if_neg (by have:=hR.cap;omega)
end Go.Proofs.YtoepnbfifjgpfaaGreat
