/- What the laws' walks begin with. What one process does, plainly: what it leaves. The document's machine: how much it weighs, what changes; two like answers (Weight, Changes, Same). -/
import Derived.Test.YtoepnbfifjgpfaaGreatMu24
import Derived.Test.YtoepnbfifjgpfaaGreatMp10
import Derived.WalkKit
import Derived.ProofKit
import Derived.BigQuiet
import Derived.Deep.QuietTactic
import Derived.Lib.Hide
import Derived.RegionTactic
import Derived.Test.YtoepnbfifjgpfaaGreatMu19
import Derived.Test.YtoepnbfifjgpfaaGreatMp9
import Derived.Test.YtoepnbfifjgpfaaGreatMp5
namespace Go.Proofs.YtoepnbfifjgpfaaGreat
open Go.RowKit
set_option linter.unusedSimpArgs false
theorem wsum_all {st:Mc} (h:McOk st):weightM st=wsum st st.pr:=by
 have h1:=weight_wsum h
 have h2:=wsum_more h (64 - st.pr)
 have h3:=h.prL
 rw [show st.pr+(64 - st.pr)=64 by omega] at h2
 rw [h1,h2]
theorem wsum_bd {st:Mc} (h:McOk st):∀ k,0≤wsum st k∧wsum st k≤70000 * k
 | 0=>by simp [wsum]
 | k+1=>by
  have:=wsum_bd h k
  have h1:=(h.cn (k:Int)).few
  have h2:=h.cf.regions
  have h3:=h.few (k:Int)
  rw [wsum,wOne]
  unfold oneW
  split <;> omega
section
variable {No:Nat→Prop} {h:RmH} {st:Mc} {w:World}
set_option maxHeartbeats 2000000 in
set_option maxRecDepth 100000 in
theorem rweight_any (i:RmIn w No h st):Calls Tryz.prog 77 #[.pointer (some ⟨h.m,0,none⟩)] w fun e w'=>e = .returned (.int .i64 (weightM st))∧Below w.heap.size w w':=by
 rw [wsum_all i.ok];have HI:=Lib.hid i
 have hprl:(st.pr:Int)≤64:=by have:=i.ok.prL;omega
 clear i
 go_enter Tryz.func77,Tryz.ntmps77
 go_wp2_with fail
 go_loopw [3,4] (fun n i wr=>∃ k:Nat,k≤st.pr∧i = .int .i64 k∧n = .int .i64 (wsum st k)∧Hid (Below w.heap.size w wr)) (fun _ i _=>st.pr - (intOf i).toNat)
 case atStart=>exact ⟨0,by omega,rfl,rfl,Below.refl _ _⟩
 case round=>
  obtain ⟨k,hk,rfl,rfl,B⟩:=hrel
  have ir:=HI.out.below B.out
  have IR:=Lib.hid ir
  obtain ⟨_,_,_,_,_,c10⟩:=ir.cells
  have hbd:=wsum_bd HI.out.ok k
  obtain ⟨W,hW⟩:∃ x,wsum st k=x:=⟨_,rfl⟩
  rw [hW] at hbd ⊢;have HW:=Lib.hid hW;clear ir hW
  by_cases hkn:k < st.pr
  ·have hkp:(k:Int) < (st.pr:Int):=by omega
   by_cases hq:st.has (k:Int)=true
   ·obtain ⟨q,hq1,hq2,cp⟩:=IR.out.ptr hq
    obtain rfl:k=q:=by omega
    obtain ⟨ra,rn,rc,la,lc,z0,z1,h2,h3⟩:=(IR.out.pr (k:Int) hq).cell
    have hrn:=h2.1.len
    have hrb:rn≤32:=by have h1:=(HI.out.ok.cn (k:Int)).few;have h2:=HI.out.ok.cf.regions;omega
    have hln:=HI.out.ok.few (k:Int)
    obtain ⟨NL,hNL⟩:∃ y,(st.ms (k:Int)).length=y:=⟨_,rfl⟩
    rw [hNL] at z1 hln
    have HS:Hid (wsum st (k+1)=W+1+rn+NL):=by
     show _=_;rw [wsum,wOne,if_pos hq,HW.out]
     unfold oneW
     rw [hrn,hNL]
     omega
    have u1:IntKind.i64.wrap (W+1)=W+1:=by rw [IntKind.wrap_i64];omega
    have u2:IntKind.i64.wrap (W+1+(rn:Int))=W+1+rn:=by rw [IntKind.wrap_i64];omega
    have u3:IntKind.i64.wrap (W+1+(rn:Int)+(NL:Int))=W+1+rn+NL:=by rw [IntKind.wrap_i64];omega
    clear h2 h3 hrn hNL hq1 hq;go_wp2_with fail;go_quiet (fail);go_wp2_with fail
    go_roundw
    case rel=>exact ⟨k+1,by omega,by go_num,by rw [HS.out],belowNp B.out _⟩
    case measure=>simp [intOf] <;> omega
   ·have hq':st.has (k:Int)=false:=by simpa using hq
    have cp:=IR.out.ptr_no hkn hq'
    have HS:Hid (wsum st (k+1)=W):=by
     show _=_;rw [wsum,wOne,if_neg hq,HW.out]
     omega
    clear hq hq';go_wp2_with fail
    go_roundw
    case rel=>exact ⟨k+1,by omega,by go_num,by rw [HS.out],B.out⟩
    case measure=>simp [intOf] <;> omega
  ·obtain rfl:k=st.pr:=by omega
   go_wp2_with fail
   go_ret
   exact ⟨by rw [HW.out];rfl,B.out⟩
end
end Go.Proofs.YtoepnbfifjgpfaaGreat
