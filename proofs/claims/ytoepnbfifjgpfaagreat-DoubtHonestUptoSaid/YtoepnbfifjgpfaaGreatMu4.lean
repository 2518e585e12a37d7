/- region: slices.Clone, cut, joined's ordering. -/
import Derived.Test.YtoepnbfifjgpfaaGreatMu3
namespace Go.Proofs.YtoepnbfifjgpfaaGreat
set_option maxRecDepth 100000
open Go.RowKit
/-- Ends with regions of its own. -/
def GivesRgs (L:List Rg) (w:World) (e:Ending) (w':World):Prop:=∃ v,e = .returned v∧OwnsS Rg.cells 3 110 w' w.heap.size v L∧Below w.heap.size w w'
theorem cloneR_any (a:Option Addr) (n c:Nat) (L:List Rg) (w:World) (h:RdS Rg.cells 3 w a n c L) (hn:n≤1000000) :
  Calls Tryz.prog 51 #[.slice a n c] w (GivesRgs L w):=by
 cases a with
 | none=>
  obtain rfl:c=0:=h.void rfl
  have hcap:=h.cap
  obtain rfl:n=0:=by omega
  obtain rfl:L=[]:=List.eq_nil_of_length_eq_zero h.len
  have hnil:=fun (w:World) (a:Option Addr) (n c:Nat)=>Lib.run_eql_slice_nil (P:=Tryz.prog) w 77 110 a n c 0 0 Tryz.underlying77
  go_enter Tryz.func51,Tryz.ntmps51
  go_wp2
  go_ret
  exact ⟨_,rfl,OwnsS.nil _ _ _ _ _,Below.refl _ _⟩
 | some x=>
  have hnil:=fun (w:World) (a:Option Addr) (n c:Nat)=>Lib.run_eql_slice_nil (P:=Tryz.prog) w 77 110 a n c 0 0 Tryz.underlying77
  go_enter Tryz.func51,Tryz.ntmps51
  go_wp2_with (at_builtin;refine appS_all rgC Tryz.underlying77 rgI rfl (by decide) rfl _ _ rfl _ w.heap.size _ [] rfl (OwnsS.empty _ _ _ _ _ _ _) _ _ _ L rfl (h.alloc _) (by simp;omega) (by simp) ?_;intro x1 w1 ho1 hg0)
  go_ret
  exact ⟨_,rfl,ho1,hg0.fromEmpty⟩
theorem below_a (w:World) (o:Obj):Below w.heap.size w (w.alloc o):=(Below.refl _ _).alloc (Nat.le_refl _) o
theorem below_a2 (w:World) (o1 o2:Obj):Below w.heap.size w ((w.alloc o1).alloc o2):=(below_a w o1).alloc (by simp) o2
theorem below_a3 (w:World) (o1 o2 o3:Obj):Below w.heap.size w (((w.alloc o1).alloc o2).alloc o3):=(below_a2 w o1 o2).alloc (by simp;omega) o3
theorem below_a4 (w:World) (o1 o2 o3 o4:Obj):Below w.heap.size w ((((w.alloc o1).alloc o2).alloc o3).alloc o4):=(below_a3 w o1 o2 o3).alloc (by simp;omega) o4
theorem box_after {wr w1:World} {base:Nat} {v v1:Value} {L:List Rg} {c:Array Value} {T:TypeId} {o2 o3:Obj} (O:OwnsS Rg.cells 3 110 wr base v L) (hg:Grows (((wr.alloc (.cells c T)).alloc o2).alloc o3) v w1 v1):w1.heap[wr.heap.size]?=some (.cells c T (0,0)):=by
 rw [hg.1.block wr.heap.size (by simp;omega) (fun e=>by have:=O.at_base wr.heap.size e.symm;omega),Below.heap_alloc _ _ _ (by simp;omega),Below.heap_alloc _ _ _ (by simp)]
 exact heap_alloc_new _ _
theorem own_step {w wr W w':World} {v v':Value} {L:List Rg} (B:Below w.heap.size w wr) (O:OwnsS Rg.cells 3 110 wr w.heap.size v L) (hb:Below wr.heap.size wr W) (hg:Grows W v w' v'):Below w.heap.size w w':=
 (Below.call B hb).trans (hg.below (Nat.le_trans B.size hb.size) (fun g h=>(O.at_base g h).1))
theorem new_2 (w:World) (o1:Obj) (c:Array Value) (T:TypeId):((w.alloc o1).alloc (.cells c T)).heap[w.heap.size+1]?=some (.cells c T (0,0)):=by
 have:=heap_alloc_new (w.alloc o1) (.cells c T)
 simpa using this
theorem new_3 (w:World) (o1 o2:Obj) (c:Array Value) (T:TypeId):(((w.alloc o1).alloc o2).alloc (.cells c T)).heap[w.heap.size+1+1]?=some (.cells c T (0,0)):=by
 have:=heap_alloc_new ((w.alloc o1).alloc o2) (.cells c T)
 simpa using this
theorem new_4 (w:World) (o1 o2 o3:Obj) (c:Array Value) (T:TypeId):((((w.alloc o1).alloc o2).alloc o3).alloc (.cells c T)).heap[w.heap.size+1+1+1]?=some (.cells c T (0,0)):=by
 have:=heap_alloc_new (((w.alloc o1).alloc o2).alloc o3) (.cells c T)
 simpa using this
theorem cutOne_len (lo hi:Int) (r:Rg):(cutOne lo hi r).length≤2:=by
 unfold cutOne
 split <;> split <;> simp
theorem cutL_len:∀ (L:List Rg) (lo hi:Int),(cutL L lo hi).length≤2 * L.length
 | [],lo,hi=>by rw [cutL_nil];simp
 | r :: L,lo,hi=>by
  by_cases h:lo < hi
  ·rw [cutL_cons h,List.length_append,List.length_cons]
   have:=cutOne_len lo hi r
   have:=cutL_len L lo hi
   omega
  ·unfold cutL
   rw [if_pos (by omega)]
   omega
set_option linter.unusedSimpArgs false in
set_option linter.unusedVariables false in
set_option maxHeartbeats 1600000 in
theorem cutR_loop (a:Option Addr) (n c:Nat) (L:List Rg) (lo hi:Int) (w:World) (h:RdS Rg.cells 3 w a n c L) (hn:n≤1000) (h0:lo < hi) (hnice:∀ r ∈ L,r.lo < r.hi) :
  Calls Tryz.prog 103 #[.slice a n c,.int .i64 lo,.int .i64 hi] w (GivesRgs (cutL L lo hi) w):=by
 have H:=Lib.hid h;have HN:=Lib.hid hnice;clear h hnice
 go_enter Tryz.func103,Tryz.ntmps103
 go_wp2
 go_loopw [7,19] (fun v i wr=>∃ k:Nat,k≤n∧i = .int .i64 k∧Hid (OwnsS Rg.cells 3 110 wr w.heap.size v (cutL (L.take k) lo hi)∧Below w.heap.size w wr)) (fun _ i _=>n - (intOf i).toNat)
 case atStart=>exact ⟨0,by omega,rfl,by rw [List.take_zero,cutL_nil];exact OwnsS.nil _ _ _ _ _,Below.refl _ _⟩
 case round=>
  obtain ⟨k,hk,rfl,hh⟩:=hrel
  obtain ⟨h1,h2⟩:=hh.out
  have O:=Lib.hid h1;have B:=Lib.hid h2;clear hh h1 h2
  by_cases hkn:k < n
  ·have hl:=H.out.len
   obtain ⟨r,hr⟩:∃ r,L[k]?=some r:=⟨L[k],List.getElem?_eq_getElem (by omega)⟩
   obtain ⟨b,o,ha,c0,c1,c2⟩:=(H.out.below B.out).three k r hr
   subst ha
   have hd:cutL (L.take (k+1)) lo hi=cutL (L.take k) lo hi ++ cutOne lo hi r:=by
    rw [List.take_add_one,hr]
    unfold cutL
    rw [if_neg (by omega),if_neg (by omega),List.flatMap_append]
    simp
   have hrn:=HN.out r (List.mem_of_getElem? hr)
   have hlen:(cutL (L.take k) lo hi).length≤2000:=by
    have:=cutL_len (L.take k) lo hi
    rw [List.length_take] at this
    omega
   obtain ⟨rlo,rhi,rp⟩:=r
   replace hrn:rlo < rhi:=hrn
   have HL:=Lib.hid hlen;have HD:=Lib.hid hd;clear hd hr hl hlen
   by_cases a1:lo < rhi
   rotate_left
   ·have a2:rlo < hi:=by omega
    have a3:¬ hi < rhi:=by omega
    have HC:Hid (cutOne lo hi ⟨rlo,rhi,rp⟩=[⟨rlo,rhi,rp⟩]):=by
     show (if rlo < min rhi lo then [(⟨rlo,min rhi lo,rp⟩:Rg)] else []) ++ (if max rlo hi < rhi then [⟨max rlo hi,rhi,rp⟩] else [])=_
     rw [if_pos (by omega),if_neg (by omega)]
     rw [show min rhi lo=rhi by omega]
     rfl
    go_wp2_with (first | (at_builtin;refine appS_one rgC Tryz.underlying77 rgI rfl (by decide) rfl (.tmp 37) (.tmp 39) rfl _ w.heap.size _ _ rfl (((O.out.alloc _).alloc _).alloc _) _ 1 ⟨rlo,rhi,rp⟩ rfl (new_3 wr _ _ _ _) (by have:=HL.out;omega) (by have:=B.out.size;simp;omega) ?_;intro v1 w1 ho1 hg1;obtain ⟨k0,k1,k2⟩:=cells3 (box_after O.out hg1)))
    go_roundw
    case rel=>exact ⟨k+1,by omega,by go_num,by rw [HD.out,HC.out];first | exact ho1.alloc _ | (rw [List.append_cons];exact ho1.alloc _) | (rw [← List.append_assoc];exact ho1.alloc _),(Below.call (own_step B.out O.out (below_a3 wr _ _ _) hg1) (below_a _ _))⟩
    case measure=>simp [intOf] <;> omega
   by_cases a2:rlo < hi
   rotate_left
   ·have a3:¬ rlo < lo:=by omega
    have HC:Hid (cutOne lo hi ⟨rlo,rhi,rp⟩=[⟨rlo,rhi,rp⟩]):=by
     show (if rlo < min rhi lo then [(⟨rlo,min rhi lo,rp⟩:Rg)] else []) ++ (if max rlo hi < rhi then [⟨max rlo hi,rhi,rp⟩] else [])=_
     rw [if_neg (by omega),if_pos (by omega)]
     rw [show max rlo hi=rlo by omega]
     rfl
    go_wp2_with (first | (at_builtin;refine appS_one rgC Tryz.underlying77 rgI rfl (by decide) rfl (.tmp 55) (.tmp 57) rfl _ w.heap.size _ _ rfl ((((O.out.alloc _).alloc _).alloc _).alloc _) _ 1 ⟨rlo,rhi,rp⟩ rfl (new_4 wr _ _ _ _ _) (by have:=HL.out;omega) (by have:=B.out.size;simp;omega) ?_;intro v1 w1 ho1 hg1))
    go_roundw
    case rel=>exact ⟨k+1,by omega,by go_num,by rw [HD.out,HC.out];first | exact ho1 | (rw [List.append_cons];exact ho1) | (rw [← List.append_assoc];exact ho1),(own_step B.out O.out (below_a4 wr _ _ _ _) hg1)⟩
    case measure=>simp [intOf] <;> omega
   by_cases a3:rlo < lo
   ·by_cases a4:hi < rhi
    ·skip
     have HC:Hid (cutOne lo hi ⟨rlo,rhi,rp⟩=[⟨rlo,lo,rp⟩,⟨hi,rhi,rp⟩]):=by
      show (if rlo < min rhi lo then [(⟨rlo,min rhi lo,rp⟩:Rg)] else []) ++ (if max rlo hi < rhi then [⟨max rlo hi,rhi,rp⟩] else [])=_
      rw [if_pos (by omega),if_pos (by omega)]
      rw [show min rhi lo=lo by omega]
      rw [show max rlo hi=hi by omega]
      rfl
     go_wp2_with (first | (at_builtin;refine appS_one rgC Tryz.underlying77 rgI rfl (by decide) rfl (.tmp 37) (.tmp 39) rfl _ w.heap.size _ _ rfl (((O.out.alloc _).alloc _).alloc _) _ 1 ⟨rlo,lo,rp⟩ rfl (new_3 wr _ _ _ _) (by have:=HL.out;omega) (by have:=B.out.size;simp;omega) ?_;intro v1 w1 ho1 hg1;obtain ⟨k0,k1,k2⟩:=cells3 (box_after O.out hg1)) | (at_builtin;refine appS_one rgC Tryz.underlying77 rgI rfl (by decide) rfl (.tmp 55) (.tmp 57) rfl _ w.heap.size _ _ rfl ((ho1.alloc _).alloc _) _ 1 ⟨hi,rhi,rp⟩ rfl (new_2 w1 _ _ _) (by have:=HL.out;simp;omega) (by have h1:=B.out.size;have h2:=hg1.1.size;simp at h2;simp;omega) ?_;intro v2 w2 ho2 hg2))
     go_roundw
     case rel=>exact ⟨k+1,by omega,by go_num,by rw [HD.out,HC.out];first | exact ho2 | (rw [List.append_cons];exact ho2) | (rw [← List.append_assoc];exact ho2),(own_step (own_step B.out O.out (below_a3 wr _ _ _) hg1) ho1 (below_a2 w1 _ _) hg2)⟩
     case measure=>simp [intOf] <;> omega
    ·skip
     have HC:Hid (cutOne lo hi ⟨rlo,rhi,rp⟩=[⟨rlo,lo,rp⟩]):=by
      show (if rlo < min rhi lo then [(⟨rlo,min rhi lo,rp⟩:Rg)] else []) ++ (if max rlo hi < rhi then [⟨max rlo hi,rhi,rp⟩] else [])=_
      rw [if_pos (by omega),if_neg (by omega)]
      rw [show min rhi lo=lo by omega]
      rfl
     go_wp2_with (first | (at_builtin;refine appS_one rgC Tryz.underlying77 rgI rfl (by decide) rfl (.tmp 37) (.tmp 39) rfl _ w.heap.size _ _ rfl (((O.out.alloc _).alloc _).alloc _) _ 1 ⟨rlo,lo,rp⟩ rfl (new_3 wr _ _ _ _) (by have:=HL.out;omega) (by have:=B.out.size;simp;omega) ?_;intro v1 w1 ho1 hg1;obtain ⟨k0,k1,k2⟩:=cells3 (box_after O.out hg1)))
     go_roundw
     case rel=>exact ⟨k+1,by omega,by go_num,by rw [HD.out,HC.out];first | exact ho1.alloc _ | (rw [List.append_cons];exact ho1.alloc _) | (rw [← List.append_assoc];exact ho1.alloc _),(Below.call (own_step B.out O.out (below_a3 wr _ _ _) hg1) (below_a _ _))⟩
     case measure=>simp [intOf] <;> omega
   ·by_cases a4:hi < rhi
    ·skip
     have HC:Hid (cutOne lo hi ⟨rlo,rhi,rp⟩=[⟨hi,rhi,rp⟩]):=by
      show (if rlo < min rhi lo then [(⟨rlo,min rhi lo,rp⟩:Rg)] else []) ++ (if max rlo hi < rhi then [⟨max rlo hi,rhi,rp⟩] else [])=_
      rw [if_neg (by omega),if_pos (by omega)]
      rw [show max rlo hi=hi by omega]
      rfl
     go_wp2_with (first | (at_builtin;refine appS_one rgC Tryz.underlying77 rgI rfl (by decide) rfl (.tmp 55) (.tmp 57) rfl _ w.heap.size _ _ rfl ((((O.out.alloc _).alloc _).alloc _).alloc _) _ 1 ⟨hi,rhi,rp⟩ rfl (new_4 wr _ _ _ _ _) (by have:=HL.out;omega) (by have:=B.out.size;simp;omega) ?_;intro v1 w1 ho1 hg1))
     go_roundw
     case rel=>exact ⟨k+1,by omega,by go_num,by rw [HD.out,HC.out];first | exact ho1 | (rw [List.append_cons];exact ho1) | (rw [← List.append_assoc];exact ho1),(own_step B.out O.out (below_a4 wr _ _ _ _) hg1)⟩
     case measure=>simp [intOf] <;> omega
    ·have HC:Hid (cutOne lo hi ⟨rlo,rhi,rp⟩=[]):=by
      show (if rlo < min rhi lo then [(⟨rlo,min rhi lo,rp⟩:Rg)] else []) ++ (if max rlo hi < rhi then [⟨max rlo hi,rhi,rp⟩] else [])=_
      rw [if_neg (by omega),if_neg (by omega)];rfl
     go_wp2
     go_roundw
     case rel=>exact ⟨k+1,by omega,by go_num,by rw [HD.out,HC.out,List.append_nil];exact ((O.out.alloc _).alloc _).alloc _,Below.call B.out (below_a3 wr _ _ _)⟩
     case measure=>simp [intOf] <;> omega
  ·obtain rfl:k=n:=by omega
   have hl:=H.out.len
   have e:L.take k=L:=List.take_of_length_le (by omega)
   rw [e] at O;clear hl e
   go_wp2
   go_ret
   exact ⟨_,rfl,O.out,B.out⟩
end Go.Proofs.YtoepnbfifjgpfaaGreat
