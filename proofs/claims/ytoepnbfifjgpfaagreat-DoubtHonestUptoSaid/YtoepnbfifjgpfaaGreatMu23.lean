/- The machine: an operation done (make, load, store, fork, list). The machine: regions turned, a process gone. The machine: an operation done (map, unmap, protect). -/
import Derived.Test.YtoepnbfifjgpfaaGreatMu0
import Derived.Test.YtoepnbfifjgpfaaGreatMu22
import Derived.WalkKit
import Derived.ProofKit
import Derived.BigQuiet
import Derived.Deep.QuietTactic
import Derived.Lib.Hide
import Derived.RegionTactic
namespace Go.Proofs.YtoepnbfifjgpfaaGreat
set_option maxRecDepth 100000
open Go.RowKit
set_option linter.unusedSimpArgs false
theorem ta_making_making (w:World):(Instr.typeAssert (.iface 126 (.agg #[])) 20 126 true).run Tryz.prog w = .ok (.tuple #[.agg #[],.bool true]) w:=by kernel_rfl
theorem ta_mapping_making (a:Option Addr) (n c:Nat) (w:World):(Instr.typeAssert (.iface 130 (.agg #[.slice a n c])) 20 126 true).run Tryz.prog w = .ok (.tuple #[.agg #[],.bool false]) w:=by kernel_rfl
theorem ta_mapping_mapping (a:Option Addr) (n c:Nat) (w:World):(Instr.typeAssert (.iface 130 (.agg #[.slice a n c])) 20 130 true).run Tryz.prog w = .ok (.tuple #[.agg #[.slice a n c],.bool true]) w:=by kernel_rfl
theorem ta_loading_making (w:World):(Instr.typeAssert (.iface 134 (.agg #[])) 20 126 true).run Tryz.prog w = .ok (.tuple #[.agg #[],.bool false]) w:=by kernel_rfl
theorem ta_loading_mapping (w:World):(Instr.typeAssert (.iface 134 (.agg #[])) 20 130 true).run Tryz.prog w = .ok (.tuple #[.agg #[.slice none 0 0],.bool false]) w:=by kernel_rfl
theorem ta_loading_loading (w:World):(Instr.typeAssert (.iface 134 (.agg #[])) 20 134 true).run Tryz.prog w = .ok (.tuple #[.agg #[],.bool true]) w:=by kernel_rfl
theorem ta_storing_making (w:World):(Instr.typeAssert (.iface 136 (.agg #[])) 20 126 true).run Tryz.prog w = .ok (.tuple #[.agg #[],.bool false]) w:=by kernel_rfl
theorem ta_storing_mapping (w:World):(Instr.typeAssert (.iface 136 (.agg #[])) 20 130 true).run Tryz.prog w = .ok (.tuple #[.agg #[.slice none 0 0],.bool false]) w:=by kernel_rfl
theorem ta_storing_loading (w:World):(Instr.typeAssert (.iface 136 (.agg #[])) 20 134 true).run Tryz.prog w = .ok (.tuple #[.agg #[],.bool false]) w:=by kernel_rfl
theorem ta_storing_storing (w:World):(Instr.typeAssert (.iface 136 (.agg #[])) 20 136 true).run Tryz.prog w = .ok (.tuple #[.agg #[],.bool true]) w:=by kernel_rfl
theorem ta_forking_making (w:World):(Instr.typeAssert (.iface 138 (.agg #[])) 20 126 true).run Tryz.prog w = .ok (.tuple #[.agg #[],.bool false]) w:=by kernel_rfl
theorem ta_forking_mapping (w:World):(Instr.typeAssert (.iface 138 (.agg #[])) 20 130 true).run Tryz.prog w = .ok (.tuple #[.agg #[.slice none 0 0],.bool false]) w:=by kernel_rfl
theorem ta_forking_loading (w:World):(Instr.typeAssert (.iface 138 (.agg #[])) 20 134 true).run Tryz.prog w = .ok (.tuple #[.agg #[],.bool false]) w:=by kernel_rfl
theorem ta_forking_storing (w:World):(Instr.typeAssert (.iface 138 (.agg #[])) 20 136 true).run Tryz.prog w = .ok (.tuple #[.agg #[],.bool false]) w:=by kernel_rfl
theorem ta_forking_forking (w:World):(Instr.typeAssert (.iface 138 (.agg #[])) 20 138 true).run Tryz.prog w = .ok (.tuple #[.agg #[],.bool true]) w:=by kernel_rfl
theorem ta_leaving_making (w:World):(Instr.typeAssert (.iface 139 (.agg #[])) 20 126 true).run Tryz.prog w = .ok (.tuple #[.agg #[],.bool false]) w:=by kernel_rfl
theorem ta_leaving_mapping (w:World):(Instr.typeAssert (.iface 139 (.agg #[])) 20 130 true).run Tryz.prog w = .ok (.tuple #[.agg #[.slice none 0 0],.bool false]) w:=by kernel_rfl
theorem ta_leaving_loading (w:World):(Instr.typeAssert (.iface 139 (.agg #[])) 20 134 true).run Tryz.prog w = .ok (.tuple #[.agg #[],.bool false]) w:=by kernel_rfl
theorem ta_leaving_storing (w:World):(Instr.typeAssert (.iface 139 (.agg #[])) 20 136 true).run Tryz.prog w = .ok (.tuple #[.agg #[],.bool false]) w:=by kernel_rfl
theorem ta_leaving_forking (w:World):(Instr.typeAssert (.iface 139 (.agg #[])) 20 138 true).run Tryz.prog w = .ok (.tuple #[.agg #[],.bool false]) w:=by kernel_rfl
theorem ta_leaving_leaving (w:World):(Instr.typeAssert (.iface 139 (.agg #[])) 20 139 true).run Tryz.prog w = .ok (.tuple #[.agg #[],.bool true]) w:=by kernel_rfl
theorem ta_watching_making (w:World):(Instr.typeAssert (.iface 141 (.agg #[])) 20 126 true).run Tryz.prog w = .ok (.tuple #[.agg #[],.bool false]) w:=by kernel_rfl
theorem ta_watching_mapping (w:World):(Instr.typeAssert (.iface 141 (.agg #[])) 20 130 true).run Tryz.prog w = .ok (.tuple #[.agg #[.slice none 0 0],.bool false]) w:=by kernel_rfl
theorem ta_watching_loading (w:World):(Instr.typeAssert (.iface 141 (.agg #[])) 20 134 true).run Tryz.prog w = .ok (.tuple #[.agg #[],.bool false]) w:=by kernel_rfl
theorem ta_watching_storing (w:World):(Instr.typeAssert (.iface 141 (.agg #[])) 20 136 true).run Tryz.prog w = .ok (.tuple #[.agg #[],.bool false]) w:=by kernel_rfl
theorem ta_watching_forking (w:World):(Instr.typeAssert (.iface 141 (.agg #[])) 20 138 true).run Tryz.prog w = .ok (.tuple #[.agg #[],.bool false]) w:=by kernel_rfl
theorem ta_watching_leaving (w:World):(Instr.typeAssert (.iface 141 (.agg #[])) 20 139 true).run Tryz.prog w = .ok (.tuple #[.agg #[],.bool false]) w:=by kernel_rfl
theorem ta_watching_watching (w:World):(Instr.typeAssert (.iface 141 (.agg #[])) 20 141 true).run Tryz.prog w = .ok (.tuple #[.agg #[],.bool true]) w:=by kernel_rfl
section
variable {No:Nat→Prop} {h:McH} {st:Mc} {w:World}
set_option maxHeartbeats 4000000 in
theorem do_err (i:McIn w No h st) (kd pid ad n pr:Int) (d:List Int) (a:Option Addr) (dn dc:Nat) (hp:(Lit.int .i64 pid).wf=true) (hk:(Lit.int .i64 ad).wf=true) (hn:(Lit.int .i64 n).wf=true) (hd:d.length=dn) (hdl:dn≤9223372036854775807) (E:Int) (hE:checkE st ⟨kd,pid,ad,n,pr,d⟩=E) (hne:E ≠ 0) :
  Calls Tryz.prog 39 #[.pointer (some ⟨h.m,0,none⟩),.agg #[.int .i64 kd,.int .i64 pid,.int .i64 ad,.int .i64 n,.int .i64 pr,.slice a dn dc]] w (DoPost No h ⟨E,0,[],[]⟩ (st) w):=by
 have s0:=dos_start (orow:=#[.int .i64 kd,.int .i64 pid,.int .i64 ad,.int .i64 n,.int .i64 pr,.slice a dn dc]) i
 have hck:=check_any s0.mc ⟨kd,pid,ad,n,pr,d⟩ a dn dc hp hk hn hd hdl
 have HI:=Lib.hid i;have HP:=Lib.hid hp;have HAD:=Lib.hid hk;have HN:=Lib.hid hn;have HD:=Lib.hid hd
 obtain ⟨o0,o1,o2,o3,o4,o5⟩:=cells6 s0.op
 have HS0:=Lib.hid s0;rw [hE] at hck
 have h3:decide (E=0)=false:=decide_eq_false hne
 have h4:(E != 0)=true:=by simpa using hne
 have h5:(E == 0)=false:=by simpa using hne
 clear hE hne;have HCK:=Lib.hid hck;clear hck s0 i hp hk hn hd
 go_enter Tryz.func39,Tryz.ntmps39
 go_wp2_with fail
 refine HCK.out.mono ?_
 rintro e w2 ⟨rfl,hb2⟩
 have HS2:=Lib.hid (HS0.out.below hb2)
 replace o0:=cel hb2 o0;replace o1:=cel hb2 o1;replace o2:=cel hb2 o2;replace o3:=cel hb2 o3;replace o4:=cel hb2 o4;replace o5:=cel hb2 o5;clear hb2
 obtain ⟨y0,y1,y2,y3⟩:=cells4a HS2.out.res
 have hf:∀ i,w2.frozen? ⟨w.heap.size+1,i,none⟩=false:=fun i=>frozen_of_row w2 (w.heap.size+1) i _ _ HS2.out.res
 have HF:=Lib.hid (HS2.out.fin (B:=w2.heap.size) HS2.out.lt (⟨E,0,[],[]⟩:Ans) (dv:=.slice none 0 0) (pv:=.slice none 0 0) (Owns.nil _ _ _ _) (Owns.nil _ _ _ _))
 clear o0 o1 o2 o3 o4 o5
 go_wp2
 obtain ⟨r0,r1,r2,r3⟩:=cells4a HF.out.2.2.2.2
 unfold sets sets sets sets sets at r0 r1 r2 r3
 refine bodyPost_ret (v:=.agg #[.int .i64 (Ans.err (⟨E,0,[],[]⟩:Ans)),.int .i64 (Ans.pid (⟨E,0,[],[]⟩:Ans)),.slice none 0 0,.slice none 0 0]) (by simp [results,Tryz.results39,go_sem,r0,r1,r2,r3]) rfl ?_
 exact ⟨_,_,rfl,HF.out.1,HF.out.2.1,HF.out.2.2.1,HF.out.2.2.2.1⟩
set_option maxHeartbeats 4000000 in
theorem do_make (i:McIn w No h st) (pid ad n pr:Int) (d:List Int) (a:Option Addr) (dn dc:Nat) (hp:(Lit.int .i64 pid).wf=true) (hk:(Lit.int .i64 ad).wf=true) (hn:(Lit.int .i64 n).wf=true) (hd:d.length=dn) (hdl:dn≤9223372036854775807) (k0:Nat) (hf:firstF st.v st.pr=k0) (hk0:k0 < st.pr) (hE:checkE st ⟨1,pid,ad,n,pr,d⟩=0) :
  Calls Tryz.prog 39 #[.pointer (some ⟨h.m,0,none⟩),.agg #[.int .i64 1,.int .i64 pid,.int .i64 ad,.int .i64 n,.int .i64 pr,.slice a dn dc]] w (DoPost No h ⟨0,(k0:Int),[],[]⟩ ({ st with v:=st.v ||| qbit k0 }) w):=by
 have s0:=dos_start (orow:=#[.int .i64 1,.int .i64 pid,.int .i64 ad,.int .i64 n,.int .i64 pr,.slice a dn dc]) i
 have hck:=check_any s0.mc ⟨1,pid,ad,n,pr,d⟩ a dn dc hp hk hn hd hdl
 have HI:=Lib.hid i;have HP:=Lib.hid hp;have HAD:=Lib.hid hk;have HN:=Lib.hid hn;have HD:=Lib.hid hd
 obtain ⟨o0,o1,o2,o3,o4,o5⟩:=cells6 s0.op
 have HS0:=Lib.hid s0;rw [hE] at hck;have HK0:=Lib.hid hk0;have HFI:=Lib.hid hf;clear hE hk0 hf
 have ta0:=ta_making_making
 have HCK:=Lib.hid hck;clear hck s0 i hp hk hn hd
 go_enter Tryz.func39,Tryz.ntmps39
 go_wp2_with fail
 refine HCK.out.mono ?_
 rintro e w2 ⟨rfl,hb2⟩
 have HS2:=Lib.hid (HS0.out.below hb2)
 replace o0:=cel hb2 o0;replace o1:=cel hb2 o1;replace o2:=cel hb2 o2;replace o3:=cel hb2 o3;replace o4:=cel hb2 o4;replace o5:=cel hb2 o5;clear hb2;go_wp2_with fail
 refine (change_1 pid ad n pr a dn dc w2 h.m).mono ?_
 rintro e w3 ⟨rfl,hb3⟩
 have HS3:=Lib.hid (HS2.out.below hb3)
 replace o0:=cel hb3 o0;replace o1:=cel hb3 o1;replace o2:=cel hb3 o2;replace o3:=cel hb3 o3;replace o4:=cel hb3 o4;replace o5:=cel hb3 o5;clear hb3
 obtain ⟨_,_,_,_,c9,_,_⟩:=HS3.out.mc.cells
 have hb4:=below_a w3 (.cells #[] 126)
 have HS4:=Lib.hid (HS3.out.below hb4)
 have c9b:=cel hb4 c9
 have hset:=HS4.out.mc.set
 rw [← HI.out.ok.prI] at hset
 have HT:=Lib.hid (take_yes h.sb st.pr k0 st.v _ hset HI.out.ok.prL.2 HFI.out HK0.out)
 clear hb4 hset;go_wp2_with fail
 refine HT.out.mono ?_
 rintro e w5 ⟨rfl,hs5,hg5⟩
 rw [HI.out.ok.prI] at hs5
 have hi5:=HS4.out.mc.taken HK0.out hs5 hg5
 have HS5:=Lib.hid (HS4.out.turn hi5 ((Tn.refl h.own _).put hg5 (.inl (.inl rfl))))
 clear hs5 hg5 hi5 c9 c9b
 obtain ⟨y0,y1,y2,y3⟩:=cells4a HS5.out.res
 have hf:∀ i,w5.frozen? ⟨w.heap.size+1,i,none⟩=false:=fun i=>frozen_of_row w5 (w.heap.size+1) i _ _ HS5.out.res
 have HF:=Lib.hid (HS5.out.fin (B:=w5.heap.size) HS5.out.lt (⟨0,(k0:Int),[],[]⟩:Ans) (dv:=.slice none 0 0) (pv:=.slice none 0 0) (Owns.nil _ _ _ _) (Owns.nil _ _ _ _))
 clear o0 o1 o2 o3 o4 o5
 go_wp2
 obtain ⟨r0,r1,r2,r3⟩:=cells4a HF.out.2.2.2.2
 unfold sets sets sets sets sets at r0 r1 r2 r3
 refine bodyPost_ret (v:=.agg #[.int .i64 (Ans.err (⟨0,(k0:Int),[],[]⟩:Ans)),.int .i64 (Ans.pid (⟨0,(k0:Int),[],[]⟩:Ans)),.slice none 0 0,.slice none 0 0]) (by simp [results,Tryz.results39,go_sem,r0,r1,r2,r3]) rfl ?_
 exact ⟨_,_,rfl,HF.out.1,HF.out.2.1,HF.out.2.2.1,HF.out.2.2.2.1⟩
set_option maxHeartbeats 4000000 in
theorem do_fork (i:McIn w No h st) (pid ad n pr:Int) (d:List Int) (a:Option Addr) (dn dc:Nat) (hp:(Lit.int .i64 pid).wf=true) (hk:(Lit.int .i64 ad).wf=true) (hn:(Lit.int .i64 n).wf=true) (hd:d.length=dn) (hdl:dn≤9223372036854775807) (k0:Nat) (hf:firstF st.v st.pr=k0) (hk0:k0 < st.pr) (hhas:st.has pid=true) (hE:checkE st ⟨7,pid,ad,n,pr,d⟩=0) :
  Calls Tryz.prog 39 #[.pointer (some ⟨h.m,0,none⟩),.agg #[.int .i64 7,.int .i64 pid,.int .i64 ad,.int .i64 n,.int .i64 pr,.slice a dn dc]] w (DoPost No h ⟨0,(k0:Int),[],[]⟩ ({ st with v:=st.v ||| qbit k0,rs:=upd st.rs k0 (st.rs pid),ms:=upd st.ms k0 (st.ms pid) }) w):=by
 have s0:=dos_start (orow:=#[.int .i64 7,.int .i64 pid,.int .i64 ad,.int .i64 n,.int .i64 pr,.slice a dn dc]) i
 have hck:=check_any s0.mc ⟨7,pid,ad,n,pr,d⟩ a dn dc hp hk hn hd hdl
 have HI:=Lib.hid i;have HP:=Lib.hid hp;have HAD:=Lib.hid hk;have HN:=Lib.hid hn;have HD:=Lib.hid hd
 obtain ⟨o0,o1,o2,o3,o4,o5⟩:=cells6 s0.op
 have HS0:=Lib.hid s0;rw [hE] at hck;have HK0:=Lib.hid hk0;have HFI:=Lib.hid hf;have HH:=Lib.hid hhas;clear hE hk0 hf hhas
 have ta0:=ta_forking_making
 have ta1:=ta_forking_mapping
 have ta2:=ta_forking_loading
 have ta3:=ta_forking_storing
 have ta4:=ta_forking_forking
 have HCK:=Lib.hid hck;clear hck s0 i hp hk hn hd
 go_enter Tryz.func39,Tryz.ntmps39
 go_wp2_with fail
 refine HCK.out.mono ?_
 rintro e w2 ⟨rfl,hb2⟩
 have HS2:=Lib.hid (HS0.out.below hb2)
 replace o0:=cel hb2 o0;replace o1:=cel hb2 o1;replace o2:=cel hb2 o2;replace o3:=cel hb2 o3;replace o4:=cel hb2 o4;replace o5:=cel hb2 o5;clear hb2;go_wp2_with fail
 refine (change_7 pid ad n pr a dn dc w2 h.m).mono ?_
 rintro e w3 ⟨rfl,hb3⟩
 have HS3:=Lib.hid (HS2.out.below hb3)
 replace o0:=cel hb3 o0;replace o1:=cel hb3 o1;replace o2:=cel hb3 o2;replace o3:=cel hb3 o3;replace o4:=cel hb3 o4;replace o5:=cel hb3 o5;clear hb3
 have hb4:=below_a w3 (.cells #[] 138)
 have HS4:=Lib.hid (HS3.out.below hb4)
 replace o0:=cel hb4 o0;replace o1:=cel hb4 o1;replace o2:=cel hb4 o2;replace o3:=cel hb4 o3;replace o4:=cel hb4 o4;replace o5:=cel hb4 o5
 have HT:=Lib.hid (fork_any HS4.out.mc pid HP.out HH.out k0 HFI.out HK0.out)
 clear hb4;go_wp2_with fail
 refine HT.out.mono ?_
 rintro e w5 ⟨rfl,hi5,ht5⟩
 have HS5:=Lib.hid (HS4.out.turn hi5 ht5)
 clear hi5 ht5
 obtain ⟨y0,y1,y2,y3⟩:=cells4a HS5.out.res
 have hf:∀ i,w5.frozen? ⟨w.heap.size+1,i,none⟩=false:=fun i=>frozen_of_row w5 (w.heap.size+1) i _ _ HS5.out.res
 have HF:=Lib.hid (HS5.out.fin (B:=w5.heap.size) HS5.out.lt (⟨0,(k0:Int),[],[]⟩:Ans) (dv:=.slice none 0 0) (pv:=.slice none 0 0) (Owns.nil _ _ _ _) (Owns.nil _ _ _ _))
 clear o0 o1 o2 o3 o4 o5
 go_wp2
 obtain ⟨r0,r1,r2,r3⟩:=cells4a HF.out.2.2.2.2
 unfold sets sets sets sets sets at r0 r1 r2 r3
 refine bodyPost_ret (v:=.agg #[.int .i64 (Ans.err (⟨0,(k0:Int),[],[]⟩:Ans)),.int .i64 (Ans.pid (⟨0,(k0:Int),[],[]⟩:Ans)),.slice none 0 0,.slice none 0 0]) (by simp [results,Tryz.results39,go_sem,r0,r1,r2,r3]) rfl ?_
 exact ⟨_,_,rfl,HF.out.1,HF.out.2.1,HF.out.2.2.1,HF.out.2.2.2.1⟩
set_option maxHeartbeats 4000000 in
theorem do_list (i:McIn w No h st) (pid ad n pr:Int) (d:List Int) (a:Option Addr) (dn dc:Nat) (hp:(Lit.int .i64 pid).wf=true) (hk:(Lit.int .i64 ad).wf=true) (hn:(Lit.int .i64 n).wf=true) (hd:d.length=dn) (hdl:dn≤9223372036854775807) (hE:checkE st ⟨9,pid,ad,n,pr,d⟩=0) :
  Calls Tryz.prog 39 #[.pointer (some ⟨h.m,0,none⟩),.agg #[.int .i64 9,.int .i64 pid,.int .i64 ad,.int .i64 n,.int .i64 pr,.slice a dn dc]] w (DoPost No h ⟨0,0,[],pidsK st.v st.pr⟩ (st) w):=by
 have s0:=dos_start (orow:=#[.int .i64 9,.int .i64 pid,.int .i64 ad,.int .i64 n,.int .i64 pr,.slice a dn dc]) i
 have hck:=check_any s0.mc ⟨9,pid,ad,n,pr,d⟩ a dn dc hp hk hn hd hdl
 have HI:=Lib.hid i;have HP:=Lib.hid hp;have HAD:=Lib.hid hk;have HN:=Lib.hid hn;have HD:=Lib.hid hd
 obtain ⟨o0,o1,o2,o3,o4,o5⟩:=cells6 s0.op
 have HS0:=Lib.hid s0;rw [hE] at hck;clear hE
 have ta0:=ta_watching_making
 have ta1:=ta_watching_mapping
 have ta2:=ta_watching_loading
 have ta3:=ta_watching_storing
 have ta4:=ta_watching_forking
 have ta5:=ta_watching_leaving
 have ta6:=ta_watching_watching
 have HCK:=Lib.hid hck;clear hck s0 i hp hk hn hd
 go_enter Tryz.func39,Tryz.ntmps39
 go_wp2_with fail
 refine HCK.out.mono ?_
 rintro e w2 ⟨rfl,hb2⟩
 have HS2:=Lib.hid (HS0.out.below hb2)
 replace o0:=cel hb2 o0;replace o1:=cel hb2 o1;replace o2:=cel hb2 o2;replace o3:=cel hb2 o3;replace o4:=cel hb2 o4;replace o5:=cel hb2 o5;clear hb2;go_wp2_with fail
 refine (change_9 pid ad n pr a dn dc w2 h.m).mono ?_
 rintro e w3 ⟨rfl,hb3⟩
 have HS3:=Lib.hid (HS2.out.below hb3)
 replace o0:=cel hb3 o0;replace o1:=cel hb3 o1;replace o2:=cel hb3 o2;replace o3:=cel hb3 o3;replace o4:=cel hb3 o4;replace o5:=cel hb3 o5;clear hb3
 obtain ⟨_,_,_,_,c9,_,_⟩:=HS3.out.mc.cells
 have hb4:=below_a w3 (.cells #[] 141)
 have HS4:=Lib.hid (HS3.out.below hb4)
 have c9b:=cel hb4 c9
 have hset:=HS4.out.mc.set
 rw [← HI.out.ok.prI] at hset
 have HT:=Lib.hid (list_any h.sb st.pr st.v _ hset HI.out.ok.prL.2)
 clear hb4 hset;go_wp2_with fail
 refine HT.out.mono ?_
 rintro e w5 ⟨pv,rfl,hov,hb5⟩
 have HS5:=Lib.hid (HS4.out.below hb5)
 obtain ⟨pa,pc,rfl⟩:=hov.shape
 have HO:=Lib.hid hov;clear hov hb5 c9 c9b
 obtain ⟨y0,y1,y2,y3⟩:=cells4a HS5.out.res
 have hf:∀ i,w5.frozen? ⟨w.heap.size+1,i,none⟩=false:=fun i=>frozen_of_row w5 (w.heap.size+1) i _ _ HS5.out.res
 have HF:=Lib.hid (HS5.out.fin (B:=(w3.alloc (.cells #[] 141)).heap.size) HS4.out.lt (⟨0,0,[],pidsK st.v st.pr⟩:Ans) (dv:=.slice none 0 0) (pv:=.slice pa (pidsK st.v st.pr).length pc) (Owns.nil _ _ _ _) HO.out)
 clear o0 o1 o2 o3 o4 o5
 go_wp2
 obtain ⟨r0,r1,r2,r3⟩:=cells4a HF.out.2.2.2.2
 unfold sets sets sets sets sets at r0 r1 r2 r3
 refine bodyPost_ret (v:=.agg #[.int .i64 (Ans.err (⟨0,0,[],pidsK st.v st.pr⟩:Ans)),.int .i64 (Ans.pid (⟨0,0,[],pidsK st.v st.pr⟩:Ans)),.slice none 0 0,.slice pa (pidsK st.v st.pr).length pc]) (by simp [results,Tryz.results39,go_sem,r0,r1,r2,r3]) rfl ?_
 exact ⟨_,_,rfl,HF.out.1,HF.out.2.1,HF.out.2.2.1,HF.out.2.2.2.1⟩
set_option maxHeartbeats 4000000 in
theorem do_load (i:McIn w No h st) (pid ad n pr:Int) (d:List Int) (a:Option Addr) (dn dc:Nat) (hp:(Lit.int .i64 pid).wf=true) (hk:(Lit.int .i64 ad).wf=true) (hn:(Lit.int .i64 n).wf=true) (hd:d.length=dn) (hdl:dn≤9223372036854775807) (N:Nat) (hN:n=(N:Int)) (hN2:N≤1048576) (hk0:0≤ad) (hk1:ad≤268435456) (hE:checkE st ⟨5,pid,ad,n,pr,d⟩=0) :
  Calls Tryz.prog 39 #[.pointer (some ⟨h.m,0,none⟩),.agg #[.int .i64 5,.int .i64 pid,.int .i64 ad,.int .i64 n,.int .i64 pr,.slice a dn dc]] w (DoPost No h ⟨0,0,loadL st.c.page (st.ms pid) ad N,[]⟩ (st) w):=by
 have s0:=dos_start (orow:=#[.int .i64 5,.int .i64 pid,.int .i64 ad,.int .i64 n,.int .i64 pr,.slice a dn dc]) i
 have hck:=check_any s0.mc ⟨5,pid,ad,n,pr,d⟩ a dn dc hp hk hn hd hdl
 have HI:=Lib.hid i;have HP:=Lib.hid hp;have HAD:=Lib.hid hk;have HN:=Lib.hid hn;have HD:=Lib.hid hd
 obtain ⟨o0,o1,o2,o3,o4,o5⟩:=cells6 s0.op
 have HS0:=Lib.hid s0;subst hN;rw [hE] at hck;have HN2:=Lib.hid hN2;have HA0:=Lib.hid hk0;have HA1:=Lib.hid hk1;clear hE hN2 hk0 hk1
 have ta0:=ta_loading_making
 have ta1:=ta_loading_mapping
 have ta2:=ta_loading_loading
 have HCK:=Lib.hid hck;clear hck s0 i hp hk hn hd
 go_enter Tryz.func39,Tryz.ntmps39
 go_wp2_with fail
 refine HCK.out.mono ?_
 rintro e w2 ⟨rfl,hb2⟩
 have HS2:=Lib.hid (HS0.out.below hb2)
 replace o0:=cel hb2 o0;replace o1:=cel hb2 o1;replace o2:=cel hb2 o2;replace o3:=cel hb2 o3;replace o4:=cel hb2 o4;replace o5:=cel hb2 o5;clear hb2;go_wp2_with fail
 refine (change_5 pid ad N pr a dn dc w2 h.m).mono ?_
 rintro e w3 ⟨rfl,hb3⟩
 have HS3:=Lib.hid (HS2.out.below hb3)
 replace o0:=cel hb3 o0;replace o1:=cel hb3 o1;replace o2:=cel hb3 o2;replace o3:=cel hb3 o3;replace o4:=cel hb3 o4;replace o5:=cel hb3 o5;clear hb3
 have hb4:=below_a w3 (.cells #[] 134)
 have HS4:=Lib.hid (HS3.out.below hb4)
 replace o0:=cel hb4 o0;replace o1:=cel hb4 o1;replace o2:=cel hb4 o2;replace o3:=cel hb4 o3;replace o4:=cel hb4 o4;replace o5:=cel hb4 o5
 have HT:=Lib.hid (load_any HS4.out.mc pid ad N HP.out HA0.out HA1.out HN2.out)
 clear hb4;go_wp2_with fail
 refine HT.out.mono ?_
 rintro e w5 ⟨dv,rfl,hov,hb5⟩
 have HS5:=Lib.hid (HS4.out.below hb5)
 obtain ⟨da,dc2,rfl⟩:=hov.shape
 have HO:=Lib.hid hov;clear hov hb5
 obtain ⟨y0,y1,y2,y3⟩:=cells4a HS5.out.res
 have hf:∀ i,w5.frozen? ⟨w.heap.size+1,i,none⟩=false:=fun i=>frozen_of_row w5 (w.heap.size+1) i _ _ HS5.out.res
 have HF:=Lib.hid (HS5.out.fin (B:=(w3.alloc (.cells #[] 134)).heap.size) HS4.out.lt (⟨0,0,loadL st.c.page (st.ms pid) ad N,[]⟩:Ans) (dv:=.slice da (loadL st.c.page (st.ms pid) ad N).length dc2) (pv:=.slice none 0 0) HO.out (Owns.nil _ _ _ _))
 clear o0 o1 o2 o3 o4 o5
 go_wp2
 obtain ⟨r0,r1,r2,r3⟩:=cells4a HF.out.2.2.2.2
 unfold sets sets sets sets sets at r0 r1 r2 r3
 refine bodyPost_ret (v:=.agg #[.int .i64 (Ans.err (⟨0,0,loadL st.c.page (st.ms pid) ad N,[]⟩:Ans)),.int .i64 (Ans.pid (⟨0,0,loadL st.c.page (st.ms pid) ad N,[]⟩:Ans)),.slice da (loadL st.c.page (st.ms pid) ad N).length dc2,.slice none 0 0]) (by simp [results,Tryz.results39,go_sem,r0,r1,r2,r3]) rfl ?_
 exact ⟨_,_,rfl,HF.out.1,HF.out.2.1,HF.out.2.2.1,HF.out.2.2.2.1⟩
set_option maxHeartbeats 4000000 in
theorem do_store (i:McIn w No h st) (pid ad n pr:Int) (d:List Int) (a:Option Addr) (dn dc:Nat) (hp:(Lit.int .i64 pid).wf=true) (hk:(Lit.int .i64 ad).wf=true) (hn:(Lit.int .i64 n).wf=true) (hd:d.length=dn) (hdl:dn≤9223372036854775807) (hhas:st.has pid=true) (hrd:RdAt .u8 w a dn dc d) (hdx:∀ x,a=some x→0 < dn→¬ No x.block) (hk0:0≤ad) (hk1:ad+dn≤268435456) (hmap:∀ x,ad≤x→x < ad+dn→findB (st.rs pid) (x / st.c.page)=true) (hE:checkE st ⟨6,pid,ad,n,pr,d⟩=0) :
  Calls Tryz.prog 39 #[.pointer (some ⟨h.m,0,none⟩),.agg #[.int .i64 6,.int .i64 pid,.int .i64 ad,.int .i64 n,.int .i64 pr,.slice a dn dc]] w (DoPost No h ⟨0,0,[],[]⟩ (stQ st pid ad d) w):=by
 have s0:=dos_start (orow:=#[.int .i64 6,.int .i64 pid,.int .i64 ad,.int .i64 n,.int .i64 pr,.slice a dn dc]) i
 have hck:=check_any s0.mc ⟨6,pid,ad,n,pr,d⟩ a dn dc hp hk hn hd hdl
 have HI:=Lib.hid i;have HP:=Lib.hid hp;have HAD:=Lib.hid hk;have HN:=Lib.hid hn;have HD:=Lib.hid hd
 obtain ⟨o0,o1,o2,o3,o4,o5⟩:=cells6 s0.op
 have HS0:=Lib.hid s0;rw [hE] at hck;have HH:=Lib.hid hhas;have HRD:=Lib.hid hrd
 have HDX:Hid (∀ x,a=some x→0 < dn→¬ NoB No (w.heap.size+1) x.block):=fun x hx h0 hno=>by
  rcases hno with hno | e
  ·exact hdx x hx h0 hno
  ·have:=hrd.lt x hx h0
   omega
 have HTN:=Lib.hid s0.tn
 have HB0:Hid (Below w.heap.size w ((w.alloc (.cells #[.int .i64 6,.int .i64 pid,.int .i64 ad,.int .i64 n,.int .i64 pr,.slice a dn dc] 39)).alloc (.cells #[.int .i64 0,.int .i64 0,.slice none 0 0,.slice none 0 0] 42))):=below_a2 w _ _
 have HMP:=Lib.hid hmap;have HA0:=Lib.hid hk0;have HA1:=Lib.hid hk1;clear hE hhas hrd hdx hmap hk0 hk1
 have ta0:=ta_storing_making
 have ta1:=ta_storing_mapping
 have ta2:=ta_storing_loading
 have ta3:=ta_storing_storing
 have HCK:=Lib.hid hck;clear hck s0 i hp hk hn hd
 go_enter Tryz.func39,Tryz.ntmps39
 go_wp2_with fail
 refine HCK.out.mono ?_
 rintro e w2 ⟨rfl,hb2⟩
 have HS2:=Lib.hid (HS0.out.below hb2)
 have HB2:=Lib.hid (Below.call HB0.out hb2)
 replace o0:=cel hb2 o0;replace o1:=cel hb2 o1;replace o2:=cel hb2 o2;replace o3:=cel hb2 o3;replace o4:=cel hb2 o4;replace o5:=cel hb2 o5;clear hb2;go_wp2_with fail
 refine (change_6 pid ad n pr a dn dc w2 h.m).mono ?_
 rintro e w3 ⟨rfl,hb3⟩
 have HS3:=Lib.hid (HS2.out.below hb3)
 have HB3:=Lib.hid (Below.call HB2.out hb3)
 replace o0:=cel hb3 o0;replace o1:=cel hb3 o1;replace o2:=cel hb3 o2;replace o3:=cel hb3 o3;replace o4:=cel hb3 o4;replace o5:=cel hb3 o5;clear hb3
 have hb4:=below_a w3 (.cells #[] 136)
 have HS4:=Lib.hid (HS3.out.below hb4)
 have HB4:=Lib.hid (Below.call HB3.out hb4)
 replace o0:=cel hb4 o0;replace o1:=cel hb4 o1;replace o2:=cel hb4 o2;replace o3:=cel hb4 o3;replace o4:=cel hb4 o4;replace o5:=cel hb4 o5
 have HT:=Lib.hid (store_any HS4.out.mc pid ad a dn dc d (HRD.out.below HB4.out) HDX.out HP.out HH.out HA0.out HA1.out HMP.out)
 clear hb4;go_wp2_with fail
 refine HT.out.mono ?_
 rintro e w5 ⟨rfl,hi5,ht5⟩
 have HS5:=Lib.hid (HS4.out.turn hi5 (ht5.mono (fun k _ e=>.inr (.inr e))))
 clear hi5 ht5
 obtain ⟨y0,y1,y2,y3⟩:=cells4a HS5.out.res
 have hf:∀ i,w5.frozen? ⟨w.heap.size+1,i,none⟩=false:=fun i=>frozen_of_row w5 (w.heap.size+1) i _ _ HS5.out.res
 have HF:=Lib.hid (HS5.out.fin (B:=w5.heap.size) HS5.out.lt (⟨0,0,[],[]⟩:Ans) (dv:=.slice none 0 0) (pv:=.slice none 0 0) (Owns.nil _ _ _ _) (Owns.nil _ _ _ _))
 clear o0 o1 o2 o3 o4 o5
 go_wp2
 obtain ⟨r0,r1,r2,r3⟩:=cells4a HF.out.2.2.2.2
 unfold sets sets sets sets sets at r0 r1 r2 r3
 refine bodyPost_ret (v:=.agg #[.int .i64 (Ans.err (⟨0,0,[],[]⟩:Ans)),.int .i64 (Ans.pid (⟨0,0,[],[]⟩:Ans)),.slice none 0 0,.slice none 0 0]) (by simp [results,Tryz.results39,go_sem,r0,r1,r2,r3]) rfl ?_
 exact ⟨_,_,rfl,HF.out.1,HF.out.2.1,HF.out.2.2.1,HF.out.2.2.2.1⟩
end
theorem within_one {m:Int} {c:List Rg} {lo hi p:Int} (hw:Within m c) (h0:0≤lo) (hm:hi≤m) (hp:p≤3):Within m (c ++ [⟨lo,hi,p⟩]):=fun r hr=>by
 rcases List.mem_append.1 hr with hr | hr
 ·exact hw r hr
 ·rw [List.mem_singleton] at hr
  rw [hr]
  exact ⟨h0,hm,hp⟩
theorem turn_ok {c:Cf} {L:List Rg} {o:Opn} (hc:CfOk c) (hcn:Cn c.regions.toNat L) (hwi:Within c.pages L) (he:turnE c L o=0) (hk:o.kind=2∨o.kind=3∨o.kind=4):Cn c.regions.toNat (turnL L o)∧Within c.pages (turnL L o):=by
 have hps:=hc.pages
 have hrg:=hc.regions
 unfold turnE at he
 cases hs:strB c o.at_ o.n with
 | false=>rw [hs,if_pos rfl] at he;cases he
 | true=>
  rw [hs,if_neg (by simp)] at he
  have hst:1≤o.n∧0≤o.at_∧o.n≤c.pages∧o.at_≤c.pages - o.n:=by
   unfold strB at hs
   simpa using hs
  by_cases h6:turnE0 L o=0∧c.regions < (turnL L o).length
  ·rw [if_pos h6] at he;cases he
  ·rw [if_neg h6] at he
   have hlen:((turnL L o).length:Int)≤c.regions:=by
    rcases Int.lt_or_le c.regions (turnL L o).length with h | h
    ·exact absurd ⟨he,h⟩ h6
    ·exact h
   have hlt:o.at_ < o.at_+o.n:=by omega
   have hhi:o.at_+o.n≤1099511627776:=by omega
   have mk:∀ {m:Nat},Cn m (turnL L o)→Cn c.regions.toNat (turnL L o):=fun h=>⟨h.canon,by omega,h.lo⟩
   rcases hk with hk | hk | hk
   ·have e1:turnE0 L o=mapE L o.at_ (o.at_+o.n) o.prot:=by unfold turnE0;rw [if_pos hk]
    have e2:turnL L o=mapL L o.at_ (o.at_+o.n) o.prot:=by unfold turnL;rw [if_pos hk]
    rw [e1] at he
    obtain ⟨⟨p1,p2,p3,p4⟩,hu,hl⟩:=map_ok he
    refine ⟨mk (by rw [e2];exact map_cn hcn hhi),?_⟩
    have hno:∀ r ∈ L,¬ (r.lo < o.at_+o.n∧o.at_ < r.hi):=fun r hr hh=>by
     have:=used_iff.2 ⟨r,hr,hh.1,hh.2⟩
     rw [hu] at this
     cases this
    rw [e2,hl,← map_with hcn.canon p1 p2 p3 hno]
    exact joinedL_within (within_one hwi p1 (by omega) p4)
   ·have e2:turnL L o=unL L o.at_ (o.at_+o.n):=by unfold turnL;rw [if_neg (by omega),if_pos hk]
    refine ⟨mk (by rw [e2];exact un_cn hcn),?_⟩
    rw [e2,← unL_cut hcn]
    exact cutL_within hwi
   ·have e1:turnE0 L o=proE L o.at_ (o.at_+o.n) o.prot:=by unfold turnE0;rw [if_neg (by omega),if_neg (by omega)]
    have e2:turnL L o=proL L o.at_ (o.at_+o.n) o.prot:=by unfold turnL;rw [if_neg (by omega),if_neg (by omega)]
    rw [e1] at he
    obtain ⟨⟨p1,p2,p3,p4⟩,_,hl⟩:=pro_ok he
    refine ⟨mk (by rw [e2];exact pro_cn hcn hhi),?_⟩
    rw [e2,hl,← protect_with hcn.canon p1 p2 p3]
    exact joinedL_within (within_one (cutL_within hwi) p1 (by omega) p4)
section
variable {w w':World} {No:Nat→Prop} {h:McH} {st st':Mc}
theorem McIn.rebuild (i:McIn w No h st) (t:Tn h.own w w') {D':List (Int × Value)} {E':List ((Int × Int) × Value)} (hc:st'.c=st.c) (hs:SetAt w' h.sb st.c.procs st'.v) (m1:MapG MR w' h.lb D') (m2:MapG MP w' h.pb E') (r:RgsIn w' No st' D') (p:PgsIn w' No st' E') (ok:McOk st'):McIn w' No h st':=by
 refine ⟨?_,by rw [hc];exact hs,⟨D',E',m1,m2,r,p⟩,ok,i.no,i.ne,fun k hk=>Nat.lt_of_lt_of_le (i.lt k hk) t.size⟩
 rw [hc]
 refine row_tn i.row t (fun e=>i.no.2.2.2 ?_)
 rcases e with e | e | e
 ·rw [e];exact i.no.1
 ·rw [e];exact i.no.2.1
 ·rw [e];exact i.no.2.2.1
theorem McIn.own_no (i:McIn w No h st):∀ k,h.own k→No k:=by
 rintro k (e | e | e)
 ·rw [e];exact i.no.1
 ·rw [e];exact i.no.2.1
 ·rw [e];exact i.no.2.2.1
/-- Regions turned, pages that are in none let go. -/
theorem McIn.remade (i:McIn w No h st) {D:List (Int × Value)} {E:List ((Int × Int) × Value)} (e3:RgsIn w No st D) (e4:PgsIn w No st E) {pid:Int} {L:List Rg} {v:Value} (hp:st.has pid=true) (hcn:Cn st.c.regions.toNat L) (hwi:Within st.c.pages L)
  (t:Tn h.own w w') (hs:SetAt w' h.sb st.c.procs st.v) (m1:MapG MR w' h.lb (kput D pid v)) (m2:MapG MP w' h.pb (E.filter fun p=>!(decide (p.1.1=pid) && !findB L p.1.2))) (hv:RgV w' No v L) :
  McIn w' No h { st with rs:=upd st.rs pid L,ms:=upd st.ms pid ((st.ms pid).filter fun x=>findB L x.1) }:=by
 refine i.rebuild t rfl hs m1 m2 ?_ ?_ ?_
 ·refine ⟨fun q hq=>?_,fun s hs=>?_⟩
  ·rcases kput_mem.1 hq with rfl | ⟨hq,hne⟩
   ·refine ⟨hp,?_⟩
    show RgV w' No v (upd st.rs pid L pid)
    rw [upd_same]
    exact hv
   ·refine ⟨(e3.all q hq).1,?_⟩
    show RgV w' No q.2 (upd st.rs pid L q.1)
    rw [upd_other _ _ hne]
    exact (e3.all q hq).2.tn t i.own_no
  ·have hne:s ≠ pid:=fun e=>hs (pid,v) (kput_mem.2 (.inl rfl)) e.symm
   show upd st.rs pid L s=[]
   rw [upd_other _ _ hne]
   exact e3.gone s (fun q hq e=>hs q (kput_mem.2 (.inr ⟨hq,fun e2=>hne (by rw [← e,e2])⟩)) e)
 ·refine ⟨fun q hq=>?_,fun s x hx=>?_⟩
  ·obtain ⟨hq1,hq2⟩:=List.mem_filter.1 hq
   obtain ⟨b,hb,hbv⟩:=e4.all q hq1
   refine ⟨b,?_,hbv.tn t i.own_no⟩
   show (q.1.2,b) ∈ upd st.ms pid _ q.1.1
   by_cases e:q.1.1=pid
   ·rw [e,upd_same]
    rw [e] at hb
    refine List.mem_filter.2 ⟨hb,?_⟩
    simpa [e] using hq2
   ·rw [upd_other _ _ e]
    exact hb
  ·replace hx:x ∈ upd st.ms pid ((st.ms pid).filter fun x=>findB L x.1) s:=hx
   by_cases e:s=pid
   ·subst e
    rw [upd_same] at hx
    obtain ⟨hx1,hx2⟩:=List.mem_filter.1 hx
    obtain ⟨u,hu⟩:=e4.has s x hx1
    exact ⟨u,List.mem_filter.2 ⟨hu,by simp [hx2]⟩⟩
   ·rw [upd_other _ _ e] at hx
    obtain ⟨u,hu⟩:=e4.has s x hx
    exact ⟨u,List.mem_filter.2 ⟨hu,by simp [e]⟩⟩
 ·refine ⟨i.ok.cf,i.ok.low,fun q=>?_,fun q=>?_,fun q hq=>?_,fun q=>?_,fun q x hx=>?_⟩
  ·show Cn _ (upd st.rs pid L q)
   by_cases e:q=pid
   ·rw [e,upd_same];exact hcn
   ·rw [upd_other _ _ e];exact i.ok.cn q
  ·show Within _ (upd st.rs pid L q)
   by_cases e:q=pid
   ·rw [e,upd_same];exact hwi
   ·rw [upd_other _ _ e];exact i.ok.wi q
  ·have hne:q ≠ pid:=fun e=>by rw [e] at hq;exact absurd (hp.symm.trans hq) (by simp)
   exact ⟨(upd_other _ _ hne).trans (i.ok.gone q hq).1,(upd_other _ _ hne).trans (i.ok.gone q hq).2⟩
  ·show SrtP (upd st.ms pid _ q)
   by_cases e:q=pid
   ·rw [e,upd_same];exact (i.ok.srt pid).filter _
   ·rw [upd_other _ _ e];exact i.ok.srt q
  ·replace hx:x ∈ upd st.ms pid ((st.ms pid).filter fun x=>findB L x.1) q:=hx
   show PgOk _ x.2∧findB (upd st.rs pid L q) x.1=true
   by_cases e:q=pid
   ·rw [e,upd_same] at hx
    rw [e,upd_same]
    obtain ⟨hx1,hx2⟩:=List.mem_filter.1 hx
    exact ⟨(i.ok.pg pid x hx1).1,hx2⟩
   ·rw [upd_other _ _ e] at hx
    rw [upd_other _ _ e]
    exact i.ok.pg q x hx
/-- A process gone. -/
theorem McIn.left (i:McIn w No h st) {D:List (Int × Value)} {E:List ((Int × Int) × Value)} (e3:RgsIn w No st D) (e4:PgsIn w No st E) {k:Nat}
  (t:Tn h.own w w') (hs:SetAt w' h.sb st.c.procs (st.v &&& ~~~ qbit k)) (m1:MapG MR w' h.lb (kdel D (k:Int))) (m2:MapG MP w' h.pb (E.filter fun p=>!(decide (p.1.1=(k:Int)) && true))) :
  McIn w' No h { st with v:=st.v &&& ~~~ qbit k,rs:=upd st.rs k [],ms:=upd st.ms k [] }:=by
 have hpr:=i.ok.prI
 have hcp:=i.ok.cf.procs
 have hh:∀ p,hasB st.c.procs (st.v &&& ~~~ qbit k) p=(hasB st.c.procs st.v p && !decide (p=(k:Int))):=has_drop hcp.2
 refine i.rebuild t rfl hs m1 m2 ?_ ?_ ?_
 ·refine ⟨fun q hq=>?_,fun s hs=>?_⟩
  ·obtain ⟨hq1,hne⟩:=kdel_mem.1 hq
   refine ⟨?_,?_⟩
   ·show hasB st.c.procs (st.v &&& ~~~ qbit k) q.1=true
    rw [hh]
    have h1:=(e3.all q hq1).1
    unfold Mc.has at h1
    rw [h1]
    simpa using hne
   ·show RgV w' No q.2 (upd st.rs k [] q.1)
    rw [upd_other _ _ hne]
    exact (e3.all q hq1).2.tn t i.own_no
  ·show upd st.rs k [] s=[]
   by_cases e:s=(k:Int)
   ·rw [e,upd_same]
   ·rw [upd_other _ _ e]
    exact e3.gone s (fun q hq e2=>hs q (kdel_mem.2 ⟨hq,fun e5=>e (by rw [← e2,e5])⟩) e2)
 ·refine ⟨fun q hq=>?_,fun s x hx=>?_⟩
  ·obtain ⟨hq1,hq2⟩:=List.mem_filter.1 hq
   have hne:q.1.1 ≠ (k:Int):=by simpa using hq2
   obtain ⟨b,hb,hbv⟩:=e4.all q hq1
   refine ⟨b,?_,hbv.tn t i.own_no⟩
   show (q.1.2,b) ∈ upd st.ms k [] q.1.1
   rw [upd_other _ _ hne]
   exact hb
  ·replace hx:x ∈ upd st.ms k [] s:=hx
   by_cases e:s=(k:Int)
   ·rw [e,upd_same] at hx;cases hx
   ·rw [upd_other _ _ e] at hx
    obtain ⟨u,hu⟩:=e4.has s x hx
    exact ⟨u,List.mem_filter.2 ⟨hu,by simp [e]⟩⟩
 ·refine ⟨i.ok.cf,fun j hj=>?_,fun q=>?_,fun q=>?_,fun q hq=>?_,fun q=>?_,fun q x hx=>?_⟩
  ·by_cases h64:j < 64
   ·rw [drop_get st.v k j h64,i.ok.low j hj]
    rfl
   ·exact BitVec.getLsbD_of_ge _ _ (by omega)
  ·show Cn _ (upd st.rs k [] q)
   by_cases e:q=(k:Int)
   ·rw [e,upd_same];exact cn_nil _
   ·rw [upd_other _ _ e];exact i.ok.cn q
  ·show Within _ (upd st.rs k [] q)
   by_cases e:q=(k:Int)
   ·rw [e,upd_same];exact fun r hr=>by cases hr
   ·rw [upd_other _ _ e];exact i.ok.wi q
  ·show upd st.rs k [] q=[]∧upd st.ms k [] q=[]
   by_cases e:q=(k:Int)
   ·rw [e,upd_same,upd_same];exact ⟨rfl,rfl⟩
   ·rw [upd_other _ _ e,upd_other _ _ e]
    refine i.ok.gone q ?_
    replace hq:hasB st.c.procs (st.v &&& ~~~ qbit k) q=false:=hq
    rw [hh] at hq
    unfold Mc.has
    simpa [e] using hq
  ·show SrtP (upd st.ms k [] q)
   by_cases e:q=(k:Int)
   ·rw [e,upd_same];exact List.Pairwise.nil
   ·rw [upd_other _ _ e];exact i.ok.srt q
  ·replace hx:x ∈ upd st.ms k [] q:=hx
   show PgOk _ x.2∧findB (upd st.rs k [] q) x.1=true
   by_cases e:q=(k:Int)
   ·rw [e,upd_same] at hx;cases hx
   ·rw [upd_other _ _ e] at hx
    rw [upd_other _ _ e]
    exact i.ok.pg q x hx
end
section
variable {No:Nat→Prop} {h:McH} {st:Mc} {w:World}
set_option maxHeartbeats 4000000 in
theorem do_turn (i:McIn w No h st) (kd pid ad n pr:Int) (d:List Int) (a:Option Addr) (dn dc:Nat) (hp:(Lit.int .i64 pid).wf=true) (hk:(Lit.int .i64 ad).wf=true) (hn:(Lit.int .i64 n).wf=true) (hd:d.length=dn) (hdl:dn≤9223372036854775807) (hkd:kd=2∨kd=3∨kd=4) (hhas:st.has pid=true) (hte:turnE st.c (st.rs pid) ⟨kd,pid,ad,n,pr,d⟩=0) (hE:checkE st ⟨kd,pid,ad,n,pr,d⟩=0) :
  Calls Tryz.prog 39 #[.pointer (some ⟨h.m,0,none⟩),.agg #[.int .i64 kd,.int .i64 pid,.int .i64 ad,.int .i64 n,.int .i64 pr,.slice a dn dc]] w (DoPost No h ⟨0,0,[],[]⟩ ({ st with rs:=upd st.rs pid (turnL (st.rs pid) ⟨kd,pid,ad,n,pr,d⟩),ms:=upd st.ms pid ((st.ms pid).filter fun x=>findB (turnL (st.rs pid) ⟨kd,pid,ad,n,pr,d⟩) x.1) }) w):=by
 have s0:=dos_start (orow:=#[.int .i64 kd,.int .i64 pid,.int .i64 ad,.int .i64 n,.int .i64 pr,.slice a dn dc]) i
 have hck:=check_any s0.mc ⟨kd,pid,ad,n,pr,d⟩ a dn dc hp hk hn hd hdl
 have HI:=Lib.hid i;have HP:=Lib.hid hp;have HAD:=Lib.hid hk;have HN:=Lib.hid hn;have HD:=Lib.hid hd
 obtain ⟨o0,o1,o2,o3,o4,o5⟩:=cells6 s0.op
 have HS0:=Lib.hid s0;rw [hE] at hck;have HKD:=Lib.hid hkd;have HH:=Lib.hid hhas;have HTE:=Lib.hid hte
 have hto:=turn_ok i.ok.cf (i.ok.cn pid) (i.ok.wi pid) hte hkd
 obtain ⟨L,hL⟩:∃ x,turnL (st.rs pid) ⟨kd,pid,ad,n,pr,d⟩=x:=⟨_,rfl⟩
 rw [hL] at hto ⊢;have HTO:=Lib.hid hto;have HTL:=Lib.hid hL;clear hE hkd hhas hte hto hL
 have ta0:=ta_mapping_making
 have ta1:=ta_mapping_mapping
 have HCK:=Lib.hid hck;clear hck s0 i hp hk hn hd
 go_enter Tryz.func39,Tryz.ntmps39
 go_wp2_with fail
 refine HCK.out.mono ?_
 rintro e w2 ⟨rfl,hb2⟩
 have HS2:=Lib.hid (HS0.out.below hb2)
 replace o0:=cel hb2 o0;replace o1:=cel hb2 o1;replace o2:=cel hb2 o2;replace o3:=cel hb2 o3;replace o4:=cel hb2 o4;replace o5:=cel hb2 o5;clear hb2;go_wp2_with fail
 refine (change_m HS2.out.mc ⟨kd,pid,ad,n,pr,d⟩ a dn dc HP.out HAD.out HN.out HKD.out).mono ?_
 rintro e w3 ⟨va,vn,vc,rfl,hov,hb3⟩
 have HS3:=Lib.hid (HS2.out.below hb3)
 have hov:=hov HTE.out
 replace hov:OwnsS Rg.cells 3 110 w3 w2.heap.size (.slice va vn vc) L:=by rw [← HTL.out];exact hov
 have hrg:=hov.rgV (No:=NoB No (w.heap.size+1)) (fun k hk=>HS2.out.mc.lt k hk)
 have hb4:=below_a w3 (.cells #[.slice va vn vc] 130)
 have HS4:=Lib.hid (HS3.out.below hb4)
 have HRG:=Lib.hid (hrg.below hb4)
 have hrow4:=heap_alloc_new w3 (.cells #[.slice va vn vc] 130)
 have x0:=cell_of_row _ w3.heap.size 0 _ _ _ hrow4
 have HX0:=Lib.hid x0;replace o1:=cel hb3 o1;replace o1:=cel hb4 o1
 obtain ⟨_,_,_,_,_,c10,c11⟩:=HS4.out.mc.cells
 have HC11:=Lib.hid c11
 obtain ⟨D,E,e1,e2,e3,e4⟩:=HS4.out.mc.dat
 have HD:=Lib.hid e1;have HE2:=Lib.hid e2;have HE3:=Lib.hid e3;have HE4:=Lib.hid e4;have HB3:=Lib.hid hb3
 have HW3:Hid (w.heap.size+1 < w3.heap.size):=HS3.out.lt
 have htl0:Tn (fun k=>k=h.lb) (w3.alloc (.cells #[.slice va vn vc] 130)) (w3.alloc (.cells #[.slice va vn vc] 130)).drew:=⟨rfl,rfl,rfl,Nat.le_refl _,fun _ _ _=>rfl⟩
 have hbl0:Below (w3.alloc (.cells #[.slice va vn vc] 130)).heap.size (w3.alloc (.cells #[.slice va vn vc] 130)) (w3.alloc (.cells #[.slice va vn vc] 130)).drew:=⟨rfl,rfl,rfl,Nat.le_refl _,fun _ _=>rfl⟩
 clear hov hrg hb3 hb4 hrow4 e1 e2 e3 e4 o0 o2 o3 o4 o5 c11;go_wp2_with fail
 refine' reg_order [eqV _,eqV _,eqV _,eqV _,eqV _,eqV _,eqV _,eqV _,(fun _ w5=>MapG MR w5 h.lb (kput D pid (.slice va vn vc)))] [(8,fun w5 w6=>World.grownBy w5 w6 (some h.lb))] [(3,fun w5=>Below (w3.alloc (.cells #[.slice va vn vc] 130)).heap.size (w3.alloc (.cells #[.slice va vn vc] 130)) w5),(5,fun w5=>Below (w3.alloc (.cells #[.slice va vn vc] 130)).heap.size (w3.alloc (.cells #[.slice va vn vc] 130)) w5),(7,fun w5=>Below (w3.alloc (.cells #[.slice va vn vc] 130)).heap.size (w3.alloc (.cells #[.slice va vn vc] 130)) w5),(8,fun w5=>Below (w3.alloc (.cells #[.slice va vn vc] 130)).heap.size (w3.alloc (.cells #[.slice va vn vc] 130)) w5),(9,fun w5=>Tn (fun k=>k=h.lb) (w3.alloc (.cells #[.slice va vn vc] 130)) w5)] [41,42,43,44,45,46,47,48,123] [[],[0],[1],[2],[],[4],[],[6],[3,5,7]] [0,1,2,3,4,5,6,7,8] 9 (by kernel_rfl) ⟨eS _,eS _,eS _,eS _,eS _,eS _,eS _,eS _,fun _ _ _ p b=>p.at (b.block _ p.lt),trivial⟩ ⟨⟨.inl (eS _),.inl (eS _),.inl (eS _),.inl (eS _),.inl (eS _),.inl (eS _),.inl (eS _),.inl (eS _),.inr (.inr rfl),trivial⟩,trivial⟩ ⟨fun _ _ p b=>Below.call p b,fun _ _ p b=>Below.call p b,fun _ _ p b=>Below.call p b,fun _ _ p b=>Below.call p b,fun _ _ p b=>Tn.call p b,trivial⟩ ⟨⟨.inr (.inl (by kernel_rfl)),.inr (.inl (by kernel_rfl)),.inr (.inl (by kernel_rfl)),.inr (.inr rfl),.inl (fun _ _ p g=>Tn.put p g (.inl rfl)),trivial⟩,trivial⟩ ⟨hbl0,hbl0,hbl0,hbl0,htl0,trivial⟩ 115 rfl (by kernel_rfl) (by kernel_rfl) rfl rfl 9 rfl ?q1obl ?q1fin
 case q1obl=>
  refine ⟨?q1o0,?q1o1,?q1o2,?q1o3,?q1o4,?q1o5,?q1o6,?q1o7,?q1o8,trivial⟩
  case q1o0 | q1o4 | q1o6=>
   intro w1 hI;refine t2o (by rfl) ?_;intro K hK;go_simp;refine hK _ _ ⟨rfl,Kept.refl _,?_⟩;show _=_;simp only [gv1];rfl
  case q1o1 | q1o2=>
   intro w1 hI;intro va ha;change _=_ at ha;subst va;refine t2o (by rfl) ?_;intro K hK;simp only [gv2];go_simp;refine hK _ _ ⟨rfl,Kept.refl _,?_⟩;show _=_;simp only [gv1];rfl
  case q1o3=>
   intro w1 hI
   replace hI:(fun w5=>Below (w3.alloc (.cells #[.slice va vn vc] 130)).heap.size (w3.alloc (.cells #[.slice va vn vc] 130)) w5) w1:=hI
   intro v2 h2;change _=_ at h2;subst v2;refine t2o (by rfl) ?_;intro K hK;simp only [gv2]
   have hcc:=cel hI c10
   go_simp;refine hK _ _ ⟨rfl,Kept.refl _,?_⟩;show _=_;simp only [gv1];rfl
  case q1o5=>
   intro w1 hI
   replace hI:(fun w5=>Below (w3.alloc (.cells #[.slice va vn vc] 130)).heap.size (w3.alloc (.cells #[.slice va vn vc] 130)) w5) w1:=hI
   intro v4 h4;change _=_ at h4;subst v4;refine t2o (by rfl) ?_;intro K hK;simp only [gv2]
   have hcc:=cel hI o1
   go_simp;refine hK _ _ ⟨rfl,Kept.refl _,?_⟩;show _=_;simp only [gv1];rfl
  case q1o7=>
   intro w1 hI
   replace hI:(fun w5=>Below (w3.alloc (.cells #[.slice va vn vc] 130)).heap.size (w3.alloc (.cells #[.slice va vn vc] 130)) w5) w1:=hI
   intro v6 h6;change _=_ at h6;subst v6;refine t2o (by rfl) ?_;intro K hK;simp only [gv2]
   have hcc:=cel hI x0
   go_simp;refine hK _ _ ⟨rfl,Kept.refl _,?_⟩;show _=_;simp only [gv1];rfl
  case q1o8=>
   intro w1 hI
   replace hI:(fun w5=>Below (w3.alloc (.cells #[.slice va vn vc] 130)).heap.size (w3.alloc (.cells #[.slice va vn vc] 130)) w5) w1:=hI
   intro v3 h3;change _=_ at h3;subst v3;intro v5 h5;change _=_ at h5;subst v5;intro v7 h7;change _=_ at h7;subst v7;refine t2o (by rfl) ?_;intro K hK;simp only [gv2]
   obtain ⟨w9,hrun9,hM9,hg9,_⟩:=mg_put (HD.out.at (hI.block _ HD.out.lt)) pid (.slice va vn vc) HP.out
   replace hrun9:(Instr.mapUpdate 98 (.map (some h.lb)) (.int .i64 pid) (.slice va vn vc)).run Tryz.prog w1 = .ok () w9:=hrun9
   go_simp
   refine hK _ _ ⟨rfl,hg9,?_⟩
   exact hM9
 intro w5 hI
 replace hI:(fun w5=>Tn (fun k=>k=h.lb) (w3.alloc (.cells #[.slice va vn vc] 130)) w5) w5:=hI
 intro v0 h0;change _=_ at h0;subst v0;intro v1 h1;change _=_ at h1;subst v1;intro v2 h2;change _=_ at h2;subst v2;intro v3 h3;change _=_ at h3;subst v3;intro v4 h4;change _=_ at h4;subst v4;intro v5 h5;change _=_ at h5;subst v5;intro v6 h6;change _=_ at h6;subst v6;intro v7 h7;change _=_ at h7;subst v7;intro v8 h8
 simp only [Given,gv2]
 have hM5:MapG MR w5 h.lb (kput D pid (.slice va vn vc)):=h8
 have hne:=HS4.out.mc.ne
 have hno:=HS4.out.mc.no
 have hlt:=HS4.out.mc.lt
 have hpb3:h.pb < w.heap.size:=HS4.out.own_lt (.inr (.inr rfl))
 have hlb3:h.lb < w.heap.size:=HS4.out.own_lt (.inr (.inl rfl))
 have hE5:MapG MP w5 h.pb E:=HE2.out.at (hI.block _ HE2.out.lt (fun e=>hne.2.2 e.symm))
 have hm5:w5.cell? ⟨h.m,11,none⟩=some (.map (some h.pb)):=(World.cell?_of_block (a:=⟨h.m,11,none⟩) (hI.block h.m (block_lt_of_cell HC11.out) (fun e=>hno.2.2.2 (by rw [e];exact hno.2.1)))).trans HC11.out
 have hx5:w5.cell? ⟨w3.heap.size,0,none⟩=some (.slice va vn vc):=(World.cell?_of_block (a:=⟨w3.heap.size,0,none⟩) (hI.block w3.heap.size (block_lt_of_cell HX0.out) (fun e=>by have:=HW3.out;replace e:w3.heap.size=h.lb:=e;omega))).trans HX0.out
 have hv5:=HRG.out.tn hI (fun k e=>by rw [e];exact hno.2.1)
 obtain ⟨a9,n9,c9,ev,hr5,hx9⟩:=hv5
 injection ev with ev1 ev2 ev3
 subst ev1 ev2 ev3
 have hn5:vn≤1000:=by have h1:=hr5.len;have h2:=HTO.out.1.few;have h3:=HI.out.ok.cf.regions;omega
 have hcall:=forget_1 L va vn vc w3.heap.size h.m h.pb pid E w5 hm5 hE5 hx5 hr5 hn5 (fun x hx h0 e=>hx9 x hx h0 (by rw [e];exact hno.2.2.1)) (by have:=HW3.out;omega)
 have HCALL:=Lib.hid hcall;have HM5:=Lib.hid hM5;have HT5:=Lib.hid hI
 have HV5:Hid (RgV w5 (NoB No (w.heap.size+1)) (.slice va vn vc) L):=⟨_,_,_,rfl,hr5,hx9⟩
 replace o1:w5.cell? ⟨w.heap.size,1,none⟩=some (.int .i64 pid):=(World.cell?_of_block (a:=⟨w.heap.size,1,none⟩) (hI.block w.heap.size (block_lt_of_cell o1) (fun e=>by replace e:w.heap.size=h.lb:=e;omega))).trans o1
 clear hcall hM5 hI h8 hne hno hlt hpb3 hlb3 hE5 hm5 hx5 hr5 hx9 hn5 htl0 hbl0 c10 x0;go_wp2_with fail
 refine HCALL.out.mono ?_
 rintro e w6 ⟨rfl,hM6,ht6⟩
 have hne:=HS4.out.mc.ne
 have hno:=HS4.out.mc.no
 have ht46:Tn h.own (w3.alloc (.cells #[.slice va vn vc] 130)) w6:=(HT5.out.mono (fun k _ e=>.inr (.inl e))).trans (ht6.mono (fun k _ e=>.inr (.inr e)))
 have hset6:=row_tn (row_tn HS4.out.mc.set HT5.out hne.1) ht6 hne.2.1
 have hi6:=HS4.out.mc.remade HE3.out HE4.out HH.out HTO.out.1 HTO.out.2 ht46 hset6 (HM5.out.at (ht6.block _ HM5.out.lt hne.2.2)) hM6 (HV5.out.tn ht6 (fun k e=>by rw [e];exact hno.2.2.1))
 have HS6:=Lib.hid (HS4.out.turn hi6 ht46)
 clear hM6 ht6 hne hno ht46 hset6 hi6
 have o0:=o1
 have o2:=o1
 have o3:=o1
 have o4:=o1
 have o5:=o1
 obtain ⟨y0,y1,y2,y3⟩:=cells4a HS6.out.res
 have hf:∀ i,w6.frozen? ⟨w.heap.size+1,i,none⟩=false:=fun i=>frozen_of_row w6 (w.heap.size+1) i _ _ HS6.out.res
 have HF:=Lib.hid (HS6.out.fin (B:=w6.heap.size) HS6.out.lt (⟨0,0,[],[]⟩:Ans) (dv:=.slice none 0 0) (pv:=.slice none 0 0) (Owns.nil _ _ _ _) (Owns.nil _ _ _ _))
 clear o0 o1 o2 o3 o4 o5
 go_wp2
 obtain ⟨r0,r1,r2,r3⟩:=cells4a HF.out.2.2.2.2
 unfold sets sets sets sets sets at r0 r1 r2 r3
 refine bodyPost_ret (v:=.agg #[.int .i64 (Ans.err (⟨0,0,[],[]⟩:Ans)),.int .i64 (Ans.pid (⟨0,0,[],[]⟩:Ans)),.slice none 0 0,.slice none 0 0]) (by simp [results,Tryz.results39,go_sem,r0,r1,r2,r3]) rfl ?_
 exact ⟨_,_,rfl,HF.out.1,HF.out.2.1,HF.out.2.2.1,HF.out.2.2.2.1⟩
end
end Go.Proofs.YtoepnbfifjgpfaaGreat
