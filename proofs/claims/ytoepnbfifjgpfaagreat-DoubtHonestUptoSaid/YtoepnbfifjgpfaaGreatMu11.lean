/- The document's regions: prot, cuts. -/
import Derived.Test.YtoepnbfifjgpfaaGreatMu0
import Derived.Test.YtoepnbfifjgpfaaGreatMu10
namespace Go.Proofs.YtoepnbfifjgpfaaGreat
set_option maxRecDepth 100000
open Go.RowKit
set_option linter.unusedSimpArgs false in
set_option linter.unusedVariables false in
set_option maxHeartbeats 1000000 in
theorem refprot_any (a:Option Addr) (n c:Nat) (L:List Rg) (x:Int) (w:World) (h:RdS Rg.cells 3 w a n c L) (hn:n≤1000) :
  Calls Tryz.prog 98 #[.slice a n c,.int .i64 x] w fun e w'=>e = .returned (.int .i64 (pf L x))∧w=w':=by
 have H:=Lib.hid h;clear h
 go_enter Tryz.func98,Tryz.ntmps98
 go_wp2
 go_loop [5] (fun i=>∃ k:Nat,k≤n∧i = .int .i64 k∧Hid (pf L x=pf (L.drop k) x)) (fun i=>n - (intOf i).toNat)
 case atStart=>exact ⟨0,by omega,rfl,rfl⟩
 case round=>
  obtain ⟨k,hk,rfl,F⟩:=hrel
  by_cases hkn:k < n
  ·have hl:=H.out.len
   obtain ⟨r,hr⟩:∃ r,L[k]?=some r:=⟨L[k],List.getElem?_eq_getElem (by omega)⟩
   obtain ⟨b,o,ha,c0,c1,c2⟩:=H.out.three k r hr
   subst ha
   have HD:=Lib.hid (drop_at hr)
   clear hr hl
   obtain ⟨lo,hi,p⟩:=r
   by_cases x1:lo≤x
   ·by_cases x2:x < hi
    ·have HF:Hid (pf L x=p):=by show _=_;rw [F.out,HD.out,pf_yes ⟨x1,x2⟩]
     go_wp2
     go_ret
     rw [HF.out]
     exact ⟨rfl,rfl⟩
    ·have HF:Hid (pf L x=pf (L.drop (k+1)) x):=by show _=_;rw [F.out,HD.out,pf_no (fun e=>x2 e.2)]
     go_wp2
     go_round
     case rel=>exact ⟨k+1,by omega,by go_num,HF.out⟩
     case measure=>simp [intOf] <;> omega
   ·have HF:Hid (pf L x=pf (L.drop (k+1)) x):=by show _=_;rw [F.out,HD.out,pf_no (fun e=>x1 e.1)]
    go_wp2
    go_round
    case rel=>exact ⟨k+1,by omega,by go_num,HF.out⟩
    case measure=>simp [intOf] <;> omega
  ·obtain rfl:k=n:=by omega
   have hl:=H.out.len
   have HF:Hid (pf L x = -1):=by show _=_;rw [F.out,List.drop_of_length_le (by omega)];rfl
   clear hl
   go_wp2
   go_ret
   rw [HF.out]
   exact ⟨rfl,rfl⟩
theorem intT:Tryz.prog.underlying 40=some (.slice 3):=Tryz.underlying40
theorem intI:elemInfo Tryz.prog 3 .i64 8:=by unfold elemInfo;kernel_rfl
theorem rd_row2 {w:World} {g:Nat} {x y:Int} (h:w.heap[g]?=some (.cells #[.int .i64 x,.int .i64 y] 3 (0,0))) (hx:(Lit.int .i64 x).wf=true) (hy:(Lit.int .i64 y).wf=true):RdAt .i64 w (some ⟨g,0,none⟩) 2 2 [x,y]:=
 ⟨rfl,Nat.le_refl _,by unfold maxLen;omega,fun i hi=>⟨g,0,rfl,by
  rw [cell_of_row w g _ _ _ _ h]
  rcases (by omega:i=0∨i=1) with rfl | rfl <;> rfl⟩,fun z hz=>by
  simp only [List.mem_cons,List.not_mem_nil,or_false] at hz
  rcases hz with rfl | rfl
  ·exact hx
  ·exact hy,fun h=>by cases h⟩
theorem rd_row1 {w:World} {g:Nat} {x:Int} (h:w.heap[g]?=some (.cells #[.int .i64 x] 3 (0,0))) (hx:(Lit.int .i64 x).wf=true):RdAt .i64 w (some ⟨g,0,none⟩) 1 1 [x]:=
 ⟨rfl,Nat.le_refl _,by unfold maxLen;omega,fun i hi=>⟨g,0,rfl,by
  rw [cell_of_row w g _ _ _ _ h]
  obtain rfl:i=0:=by omega
  rfl⟩,fun z hz=>by
  obtain rfl:=List.mem_singleton.1 hz
  exact hx,fun h=>by cases h⟩
theorem RdAt.front {k:IntKind} {w:World} {a:Option Addr} {n c:Nat} {l:List Int} (h:RdAt k w a n c l) (m:Nat) (hm:m≤n):RdAt k w a m c (l.take m):=
 ⟨by rw [List.length_take,h.len];omega,Nat.le_trans hm h.cap,h.max,fun i hi=>by
  obtain ⟨b,o,e,hc⟩:=h.cell i (by omega)
  refine ⟨b,o,e,?_⟩
  rw [hc]
  unfold nth
  rw [List.getD_eq_getElem?_getD,List.getD_eq_getElem?_getD,List.getElem?_take_of_lt hi],fun x hx=>h.wf x (List.mem_of_mem_take hx),h.void⟩
def pkI {α:Type} (c k:Nat) (A B:α):α:=if c=k then A else B
theorem rd_pkI {kd:IntKind} {w:World} {b o n c:Nat} {l:List Int} (h:RdAt kd w (some ⟨b,o,none⟩) n c l) (k:Nat) (hk:k≤n):RdAt kd w (pkI c k (some ⟨b,o,none⟩) (some ⟨b,o+k,none⟩)) (n - k) (c - k) (l.drop k):=by
 have hcap:=h.cap
 have hmax:=h.max
 have hl:=h.len
 unfold pkI
 by_cases hc:c=k
 ·rw [if_pos hc]
  rw [show n - k=0 by omega,show c - k=0 by omega,List.drop_of_length_le (by omega)]
  exact ⟨rfl,Nat.le_refl _,by unfold maxLen;omega,fun i hi=>by omega,by simp,fun h=>by cases h⟩
 ·rw [if_neg hc]
  refine ⟨by rw [List.length_drop,hl],by omega,by omega,fun i hi=>⟨b,o+k,rfl,?_⟩,fun x hx=>h.wf x (List.mem_of_mem_drop hx),fun h=>by cases h⟩
  obtain ⟨b',o',e,hcell⟩:=h.cell (k+i) (by omega)
  injection e with e
  injection e with e1 e2
  subst e1 e2
  rw [show o+k+i=o+(k+i) by omega,hcell]
  unfold nth
  rw [List.getD_eq_getElem?_getD,List.getD_eq_getElem?_getD,List.getElem?_drop]
theorem own_addr {k:IntKind} {e:TypeId} {w:World} {base n c:Nat} {ua:Addr} {l:List Int} (h:Owns k e w base (.slice (some ua) n c) l):∃ g o,ua=⟨g,o,none⟩:=by
 rcases h.2 with ⟨_,a,hv,hs⟩ | h2
 ·injection hv with e1
  have:=hs ua e1.symm
  obtain ⟨b,o,sp⟩:=ua
  exact ⟨b,o,by rw [show sp=none from this]⟩
 ·rcases h2.2 with ⟨hv,_⟩ | ⟨g,cap,cur,hv,_⟩
  ·cases hv
  ·injection hv with e1
   injection e1 with e1
   exact ⟨g,0,e1⟩
theorem insU_at:∀ {l:List Int} {x:Int} {k:Nat},(∀ i,i < k→nth l i < x)→k≤l.length→(k < l.length→x≤nth l k) →
  insU x l=if k < l.length∧nth l k=x then l else l.take k ++ x :: l.drop k
 | [],x,k,_,h2,_=>by
  obtain rfl:k=0:=by simpa using h2
  rw [if_neg (by simp)];rfl
 | y :: l,x,0,_,_,h3=>by
  have h:=h3 (by simp)
  have e:nth (y :: l) 0=y:=rfl
  rw [e] at h ⊢;rw [insU,if_neg (by omega)]
  by_cases hy:y=x
  ·rw [if_pos hy,if_pos ⟨by simp,hy⟩]
  ·rw [if_neg hy,if_neg (fun q=>hy q.2)]
   rfl
 | y :: l,x,k+1,h1,h2,h3=>by
  have e0:nth (y :: l) 0=y:=rfl
  have es:∀ i,nth (y :: l) (i+1)=nth l i:=fun i=>rfl
  have hy:=h1 0 (by omega)
  rw [e0] at hy
  rw [insU,if_pos hy,insU_at (l:=l) (k:=k) (fun i hi=>by have:=h1 (i+1) (by omega);rwa [es] at this) (by simpa using h2) (fun hk=>by have:=h3 (by simpa using hk);rwa [es] at this),es]
  by_cases hq:k < l.length∧nth l k=x
  ·rw [if_pos hq,if_pos ⟨by simpa using hq.1,hq.2⟩]
  ·rw [if_neg hq,if_neg (fun q=>hq ⟨by simpa using q.1,q.2⟩)]
   rfl
theorem insU_len (x:Int):∀ l:List Int,(insU x l).length≤l.length+1
 | []=>by simp [insU]
 | y :: l=>by
  rw [insU]
  split
  ·have:=insU_len x l
   simp <;> omega
  ·split <;> simp
theorem cutsA_snoc (A:List Int) (x:Int):cutsA (A ++ [x])=insU x (cutsA A):=by
 unfold cutsA
 rw [List.foldl_append];rfl
theorem cutsA_len:∀ (A:List Int) (j:Nat),(cutsA (A.take j)).length≤j
 | A,0=>by simp [cutsA]
 | A,j+1=>by
  have h:=cutsA_len A j
  rw [List.take_add_one]
  cases hj:A[j]? with
  | none=>simp <;> omega
  | some x=>
   rw [show (some x).toList=[x] from rfl,cutsA_snoc]
   have:=insU_len x (cutsA (A.take j))
   omega
theorem endsL_snoc (l:List Rg) (r:Rg):endsL (l ++ [r])=endsL l ++ [r.lo,r.hi]:=by
 unfold endsL
 rw [List.flatMap_append]
 simp
theorem endsL_len:∀ l:List Rg,(endsL l).length=2 * l.length
 | []=>rfl
 | r :: l=>by
  have h:=endsL_len l
  show ([r.lo,r.hi] ++ endsL l).length=_
  rw [List.length_append,h]
  simp
  omega
/-- Ends with ints of its own. -/
def GivesInts (A:List Int) (w:World) (e:Ending) (w':World):Prop:=∃ v,e = .returned v∧Owns .i64 3 w' w.heap.size v A∧Below w.heap.size w w'
set_option linter.unusedSimpArgs false in
set_option linter.unusedVariables false in
set_option maxHeartbeats 2000000 in
theorem cuts_any (a:Option Addr) (n c:Nat) (L:List Rg) (a2:Option Addr) (n2 c2:Nat) (more:List Int) (w:World) (h:RdS Rg.cells 3 w a n c L) (hn:n≤1000) (hw:∀ r ∈ L,r.Wf) (h2:RdAt .i64 w a2 n2 c2 more) (hn2:n2≤2) :
  Calls Tryz.prog 97 #[.slice a n c,.slice a2 n2 c2] w (GivesInts (cutsL L more) w):=by
 have H:=Lib.hid h;have HW:=Lib.hid hw;have H2:=Lib.hid h2;clear h hw h2
 go_enter Tryz.func97,Tryz.ntmps97
 go_wp2_with (at_builtin;refine app_all intT intI (by decide) rfl (.tmp 11) (.tmp 12) rfl _ w.heap.size _ [] rfl (Owns.empty _ _ _ _ _ _) a2 n2 c2 more rfl (H2.out.alloc _) (by simp <;> omega) (by simp) ?_;intro x1 w1 ho1 hg0)
 have O1:=Lib.hid ho1;have B1:=Lib.hid hg0.fromEmpty;clear ho1 hg0
 go_loopw [6,7] (fun x i wr=>∃ k:Nat,k≤n∧i = .int .i64 k∧Hid (Owns .i64 3 wr w.heap.size x (more ++ endsL (L.take k))∧Below w.heap.size w wr)) (fun _ i _=>n - (intOf i).toNat)
 case atStart=>exact ⟨0,by omega,rfl,by have:=O1.out;simpa [endsL] using this,B1.out⟩
 case round=>
  clear O1 B1
  obtain ⟨k,hk,rfl,hh⟩:=hrel
  obtain ⟨h1,h2⟩:=hh.out
  have X:=Lib.hid h1;have B:=Lib.hid h2;clear hh h1 h2
  by_cases hkn:k < n
  ·have hl:=H.out.len
   obtain ⟨r,hr⟩:∃ r,L[k]?=some r:=⟨L[k],List.getElem?_eq_getElem (by omega)⟩
   have hwf:=HW.out r (List.mem_of_getElem? hr)
   have HCL0:Hid (∃ g o,a=some ⟨g,o,none⟩∧∀ w1,Below w.heap.size w w1→w1.cell? ⟨g,o+k * 3,none⟩=some (.int .i64 r.lo)∧w1.cell? ⟨g,o+k * 3+1,none⟩=some (.int .i64 r.hi)∧w1.cell? ⟨g,o+k * 3+2,none⟩=some (.int .i64 r.p)):=by
    obtain ⟨g,o,e,c0,c1,c2⟩:=H.out.three k r hr
    refine ⟨g,o,e,fun w1 hb=>?_⟩
    obtain ⟨g',o',e',q⟩:=(H.out.below hb).three k r hr
    rw [e] at e'
    injection e' with e'
    injection e' with e1 e2
    subst e1 e2
    exact q
   obtain ⟨g,o,ha,hcl⟩:=HCL0.out
   subst ha;have HCL:=Lib.hid hcl
   have HE:Hid (more ++ endsL (L.take (k+1))=(more ++ endsL (L.take k)) ++ [r.lo,r.hi]):=by
    show _=_;rw [List.take_add_one,hr,show (some r).toList=[r] from rfl,endsL_snoc,List.append_assoc]
   have hA:(more ++ endsL (L.take k)).length≤2002:=by
    have:=H2.out.len
    rw [List.length_append,endsL_len,List.length_take]
    omega
   obtain ⟨A,hAe⟩:∃ A,more ++ endsL (L.take k)=A:=⟨_,rfl⟩
   rw [hAe] at X HE hA
   obtain ⟨q,hq⟩:∃ q,A.length=q:=⟨_,rfl⟩
   obtain ⟨ax,cx,rfl⟩:=X.out.shapeN q hq
   rw [hq] at hA
   have HLEN:Hid (A.length+2≤1099511627776):=by show _≤_;omega
   obtain ⟨rlo,rhi,rp⟩:=r
   have HWF:Hid ((Lit.int .i64 rlo).wf=true∧(Lit.int .i64 rhi).wf=true):=⟨WalkArith.wf_i64 hwf.lo,WalkArith.wf_i64 hwf.hi⟩
   clear hr hl hwf HCL0 hcl hAe hq hA
   go_wp2
   refine' reg_kill [(12,11)] [eqV _,eqV _,eqV _,eqV _,eqV _,eqV _,eqV _,eqV _,eqV _,eqV _,eqV _,(fun v z=>∃ g,v=Value.slice (some ⟨g,0,none⟩) 2 2∧z.heap[g]?=some (.cells #[.int .i64 rlo,.int .i64 rhi] 3 (0,0))),(fun v z=>Owns .i64 3 z w.heap.size v (A ++ [rlo,rhi])),(fun v z=>Owns .i64 3 z w.heap.size v (A ++ [rlo,rhi]))] [(12,fun _ z=>Below w.heap.size w z)] [(5,fun z=>Below w.heap.size w z),(10,fun z=>Below w.heap.size w z),(14,fun z=>Below w.heap.size w z),(12,fun z=>Below w.heap.size w z∧Owns .i64 3 z w.heap.size (.slice ax q cx) A)] [20,21,22,23,24,25,26,27,28,29,30,31,32,6] [[],[],[],[1,2],[3],[4],[],[],[6,7],[8],[9],[5,10],[0,11],[12]] [0,1,2,3,4,5,6,7,8,9,10,11,12,13] 14 (by kernel_rfl) (by kernel_rfl) ⟨eS _,eS _,eS _,eS _,eS _,eS _,eS _,eS _,eS _,eS _,eS _,fun _ _ _ ⟨g,e,p⟩ b=>⟨g,e,row_keep p b⟩,fun _ _ _ p b=>Owns.below p b,fun _ _ _ p b=>Owns.below p b,trivial⟩ ⟨⟨.inl (eS _),.inl (eS _),.inl (eS _),.inl (eS _),.inl (eS _),.inl (eS _),.inl (eS _),.inl (eS _),.inl (eS _),.inl (eS _),.inl (eS _),.inr (.inr (.inr (by kernel_rfl))),.inr (.inr (.inl rfl)),.inr (.inl (by kernel_rfl)),trivial⟩,trivial⟩ ⟨fun _ _ p b=>p.trans (b.mono p.size),fun _ _ p b=>p.trans (b.mono p.size),fun _ _ p b=>p.trans (b.mono p.size),fun _ _ p b=>⟨p.1.trans (b.mono p.1.size),p.2.below b⟩,trivial⟩ ⟨⟨.inr (.inl (by kernel_rfl)),.inr (.inl (by kernel_rfl)),.inl (fun _ _ _ g=>g),.inr (.inr rfl),trivial⟩,trivial⟩ ⟨B.out.drew,B.out.drew,B.out.drew,⟨B.out.drew,X.out.drew⟩,trivial⟩ 88 rfl (by kernel_rfl) (by kernel_rfl) rfl rfl 14 rfl ?q1obl ?q1fin
   case q1obl=>
    refine ⟨?q1o0,?q1o1,?q1o2,?q1o3,?q1o4,?q1o5,?q1o6,?q1o7,?q1o8,?q1o9,?q1o10,?q1o11,?q1o12,?q1o13,trivial⟩
    case q1o0 | q1o1 | q1o2 | q1o6 | q1o7=>
     intro w1 hI;refine t2o (by rfl) ?_;intro K hK;go_simp;refine hK _ _ ⟨rfl,Kept.refl _,?_⟩;show _=_;simp only [gv1];rfl
    case q1o3=>
     intro w1 hI;intro va ha;change _=_ at ha;subst va;intro vb hb;change _=_ at hb;subst vb;refine t2o (by rfl) ?_;intro K hK;simp only [gv2];go_simp;refine hK _ _ ⟨rfl,Kept.refl _,?_⟩;show _=_;simp only [gv1];rfl
    case q1o4=>
     intro w1 hI;intro va ha;change _=_ at ha;subst va;refine t2o (by rfl) ?_;intro K hK;simp only [gv2];go_simp;refine hK _ _ ⟨rfl,Kept.refl _,?_⟩;show _=_;simp only [gv1];rfl
    case q1o5=>
     intro w1 hI
     replace hI:(fun z=>Below w.heap.size w z) w1:=hI
     intro v4 h4;change _=_ at h4;subst v4;refine t2o (by rfl) ?_;intro K hK;simp only [gv2]
     obtain ⟨c0,c1,c2⟩:=HCL.out w1 hI
     go_simp;refine hK _ _ ⟨rfl,Kept.refl _,?_⟩;show _=_;simp only [gv1];rfl
    case q1o8=>
     intro w1 hI;intro va ha;change _=_ at ha;subst va;intro vb hb;change _=_ at hb;subst vb;refine t2o (by rfl) ?_;intro K hK;simp only [gv2];go_simp;refine hK _ _ ⟨rfl,Kept.refl _,?_⟩;show _=_;simp only [gv1];rfl
    case q1o9=>
     intro w1 hI;intro va ha;change _=_ at ha;subst va;refine t2o (by rfl) ?_;intro K hK;simp only [gv2];go_simp;refine hK _ _ ⟨rfl,Kept.refl _,?_⟩;show _=_;simp only [gv1];rfl
    case q1o10=>
     intro w1 hI
     replace hI:(fun z=>Below w.heap.size w z) w1:=hI
     intro v9 h9;change _=_ at h9;subst v9;refine t2o (by rfl) ?_;intro K hK;simp only [gv2]
     obtain ⟨c0,c1,c2⟩:=HCL.out w1 hI
     go_simp;refine hK _ _ ⟨rfl,Kept.refl _,?_⟩;show _=_;simp only [gv1];rfl
    case q1o11=>
     intro w1 hI;intro v5 h5;change _=_ at h5;subst v5;intro v10 h10;change _=_ at h10;subst v10;refine t2o (by rfl) ?_;intro K hK;simp only [gv2];go_simp
     refine hK _ _ ⟨rfl,below_a _ _,?_⟩
     show ∃ g,_=Value.slice (some ⟨g,0,none⟩) 2 2∧_
     simp only [gv1]
     exact ⟨_,rfl,heap_alloc_new _ _⟩
    case q1o12=>
     intro w1 hI
     replace hI:(fun z=>Below w.heap.size w z∧Owns .i64 3 z w.heap.size (.slice ax q cx) A) w1:=hI
     intro v0 h0;change _=_ at h0;subst v0;intro v11 h11
     obtain ⟨g11,rfl,h11⟩:=h11
     refine t2o (by rfl) ?_;intro K hK;simp only [gv2]
     refine wp_app_all 32 rfl intT intI (by decide) (.tmp 20) (.tmp 31) rfl w1 w.heap.size (.slice ax q cx) A rfl hI.2 (some ⟨g11,0,none⟩) 2 2 [rlo,rhi] rfl (rd_row2 h11 HWF.out.1 HWF.out.2) HLEN.out hI.1.size ?_
     intro v9 w9 ho9 hg9
     refine hK _ _ ⟨rfl,Below.grown hI.1 hg9.1 hI.1.size (fun x e=>(hI.2.at_base x e).1),?_⟩
     show Owns _ _ _ _ _ _
     simp only [gv1]
     exact ho9
    case q1o13=>
     intro w1 hI;intro v12 h12;refine t2o (by rfl) ?_;intro K hK;simp only [gv2];go_simp;refine hK _ _ ⟨rfl,Kept.refl _,?_⟩
     show Owns _ _ _ _ _ _
     simp only [gv1]
     exact h12
   intro w1 hI
   replace hI:(fun z=>Below w.heap.size w z) w1:=hI
   intro v0 h0;replace h0:=h0 (by kernel_rfl);change _=_ at h0;subst v0;intro v1 h1;replace h1:=h1 (by kernel_rfl);change _=_ at h1;subst v1;intro v2 h2;replace h2:=h2 (by kernel_rfl);change _=_ at h2;subst v2;intro v3 h3;replace h3:=h3 (by kernel_rfl);change _=_ at h3;subst v3;intro v4 h4;replace h4:=h4 (by kernel_rfl);change _=_ at h4;subst v4;intro v5 h5;replace h5:=h5 (by kernel_rfl)
   change _=_ at h5;subst v5;intro v6 h6;replace h6:=h6 (by kernel_rfl);change _=_ at h6;subst v6;intro v7 h7;replace h7:=h7 (by kernel_rfl);change _=_ at h7;subst v7;intro v8 h8;replace h8:=h8 (by kernel_rfl);change _=_ at h8;subst v8;intro v9 h9;replace h9:=h9 (by kernel_rfl);change _=_ at h9;subst v9;intro v10 h10;replace h10:=h10 (by kernel_rfl);change _=_ at h10
   subst v10;intro v11 _;intro v12 h12;replace h12:=h12 (by kernel_rfl);intro v13 h13;replace h13:=h13 (by kernel_rfl)
   simp only [Given,gv2]
   go_wp2
   go_roundw
   case rel=>exact ⟨k+1,by omega,by go_num,by rw [HE.out];exact h13,hI⟩
   case measure=>simp [intOf] <;> omega
  ·obtain rfl:k=n:=by omega
   have hl:=H.out.len
   have e:L.take k=L:=List.take_of_length_le (by omega)
   rw [e] at X
   have hA:(more ++ endsL L).length≤2002:=by
    have:=H2.out.len
    rw [List.length_append,endsL_len]
    omega
   obtain ⟨A,hAe⟩:∃ A,more ++ endsL L=A:=⟨_,rfl⟩
   have HGOAL:Hid (cutsL L more=cutsA A):=by show _=_;rw [← hAe];rfl
   rw [hAe] at X hA
   obtain ⟨q,hq⟩:∃ q,A.length=q:=⟨_,rfl⟩
   obtain ⟨ax,cx,rfl⟩:=X.out.shapeN q hq
   rw [hq] at hA;have HRA:=Lib.hid X.out.rd;have HQ:=Lib.hid hq;clear hl e hAe hq X
   obtain ⟨wL,rfl⟩:∃ wL:World,wL=wr:=⟨_,rfl⟩
   go_wp2
   go_loopw [5,8] (fun x i wr=>∃ j:Nat,j≤q∧i = .int .i64 j∧Hid (Owns .i64 3 wr wL.heap.size x (cutsA (A.take j))∧Below wL.heap.size wL wr)) (fun _ i _=>q - (intOf i).toNat)
   case atStart=>exact ⟨0,by omega,rfl,Owns.nil _ _ _ _,Below.refl _ _⟩
   case round=>
    obtain ⟨j,hj,rfl,hh⟩:=hrel
    obtain ⟨h1,h2⟩:=hh.out
    have X:=Lib.hid h1;have BI:=Lib.hid h2;clear hh h1 h2
    by_cases hjq:j < q
    ·have hl:=HQ.out
     obtain ⟨x,hx⟩:∃ x,A[j]?=some x:=⟨A[j],List.getElem?_eq_getElem (by omega)⟩
     have hwx:=HRA.out.wf x (List.mem_of_getElem? hx)
     have hnx:nth A j=x:=by unfold nth;rw [List.getD_eq_getElem?_getD,hx];rfl
     have HWX:=Lib.hid hwx
     have HE:Hid (cutsA (A.take (j+1))=insU x (cutsA (A.take j))):=by
      show _=_;rw [List.take_add_one,hx,show (some x).toList=[x] from rfl,cutsA_snoc]
     have hlen:=cutsA_len A j
     have HCA0:Hid (∃ g o,ax=some ⟨g,o,none⟩∧∀ w1,Below wL.heap.size wL w1→w1.cell? ⟨g,o+j,none⟩=some (.int .i64 x)):=by
      obtain ⟨g,o,e,c0⟩:=HRA.out.cell j hjq
      refine ⟨g,o,e,fun w1 hb=>?_⟩
      obtain ⟨g',o',e',c1⟩:=(HRA.out.below hb).cell j hjq
      rw [e] at e'
      injection e' with e'
      injection e' with e1 e2
      subst e1 e2
      rw [c1,hnx]
     obtain ⟨g,o,hax,hca⟩:=HCA0.out
     subst hax
     obtain ⟨U,hU⟩:∃ U,cutsA (A.take j)=U:=⟨_,rfl⟩
     rw [hU] at X HE hlen
     obtain ⟨u,hu⟩:∃ u,U.length=u:=⟨_,rfl⟩
     obtain ⟨au,cu,rfl⟩:=X.out.shapeN u hu
     rw [hu] at hlen;have HU:=Lib.hid hu;have HCAW:=Lib.hid hca;have HXX:=Lib.hid hx;clear hl hx hwx hnx HCA0 hca hU hu
     obtain ⟨wI,rfl⟩:∃ wI:World,wI=wr:=⟨_,rfl⟩
     go_wp2
     go_loopw [9] (fun i wr=>∃ t:Nat,t≤u∧i = .int .i64 t∧Hid ((∀ i,i < t→nth U i < x)∧Below wI.heap.size wI wr)) (fun i _=>u - (intOf i).toNat)
     case atStart=>exact ⟨0,by omega,rfl,fun i hi=>by omega,Below.refl _ _⟩
     case round=>
      obtain ⟨t,ht,rfl,hh⟩:=hrel
      obtain ⟨h1,h2⟩:=hh.out
      have HLT:=Lib.hid h1;have BK:=Lib.hid h2;clear hh h1 h2
      have hbA:=HCAW.out wr (Below.trans BI.out (BK.out.mono BI.out.size))
      have hlu:=HU.out
      by_cases htu:t < u
      ·obtain ⟨y,hy⟩:∃ y,nth U t=y:=⟨_,rfl⟩
       obtain ⟨gu,ou,hau,cu0⟩:=(X.out.rd.below BK.out).cell t htu
       subst hau;rw [hy] at cu0
       have hyw:=X.out.1 y (by rw [← hy,nth_eq (by omega)];exact List.getElem_mem _)
       have hyb:=wf_i64_bd hyw
       obtain ⟨hyb1,hyb2⟩:=hyb
       clear hyw hlu
       by_cases hyx:y < x
       ·have HNEXT:Hid (∀ i,i < t+1→nth U i < x):=fun i hi=>by
         by_cases e:i=t
         ·rw [e,hy];exact hyx
         ·exact HLT.out i (by omega)
        have d1:decide (y < x)=true:=decide_eq_true hyx
        clear hy
        go_wp2
        go_quiet (fail)
        go_wp2
        go_round
        case rel=>exact ⟨t+1,by omega,by go_num,HNEXT.out,Below.call BK.out (belowN (Below.refl _ _) _)⟩
        case measure=>simp [intOf] <;> omega
       ·have HY:=Lib.hid hy
        have d1:decide (y < x)=false:=decide_eq_false hyx
        clear hy
        go_wp2
        go_quiet (fail)
        obtain ⟨w2,hw2⟩:∃ w2,wr.drewN nq=w2:=⟨_,rfl⟩
        have B2:Hid (Below wI.heap.size wI w2):=by show Below _ _ _;rw [← hw2];exact Below.call BK.out (belowN (Below.refl _ _) _)
        rw [hw2];clear hw2
        obtain ⟨gu2,ou2,hau2,cu1⟩:=(X.out.rd.below B2.out).cell t htu
        injection hau2 with hau2
        injection hau2 with e1 e2
        subst e1 e2
        rw [HY.out] at cu1
        have hca2:=HCAW.out w2 (Below.trans BI.out (B2.out.mono BI.out.size))
        by_cases hyx2:y=x
        ·have HEQ:Hid (insU x U=U):=by
          show _=_
          rw [insU_at HLT.out (by rw [HU.out];exact ht) (fun _=>by rw [HY.out];omega),if_pos ⟨by rw [HU.out];exact htu,by rw [HY.out];exact hyx2⟩]
         subst hyx2
         go_wp2
         go_quiet (fail)
         go_wp2
         go_roundw
         case rel=>exact ⟨j+1,by omega,by go_num,by rw [HE.out,HEQ.out];exact (X.out.below B2.out).below (belowN (Below.refl _ _) _),Below.call (Below.trans BI.out (B2.out.mono BI.out.size)) (belowN (Below.refl _ _) _)⟩
         case measure=>simp [intOf] <;> omega
        ·have HEQ:Hid (insU x U=U.take t ++ x :: U.drop t):=by
          show _=_
          rw [insU_at HLT.out (by rw [HU.out];exact ht) (fun _=>by rw [HY.out];omega),if_neg (fun e=>hyx2 (by rw [← HY.out];exact e.2))]
         have d2:(y == x)=false:=by simpa using hyx2
         go_wp2
         go_quiet (fail)
         obtain ⟨wS,hwS⟩:∃ wS,w2.drewN nq=wS:=⟨_,rfl⟩
         have BS:Hid (Below wI.heap.size wI wS):=by show Below _ _ _;rw [← hwS];exact Below.call B2.out (belowN (Below.refl _ _) _)
         rw [hwS];clear hwS hyx hyx2 hca2 cu0 cu1 hbA d1 d2
         have BS2:Hid (Below wL.heap.size wL wS):=Below.trans BI.out (BS.out.mono BI.out.size)
         have HRU:Hid (∀ w1,Below wS.heap.size wS w1→RdAt .i64 w1 (some ⟨gu,ou,none⟩) u cu U):=fun w1 hb=>(X.out.rd.below BS.out).below hb
         have HCA:Hid (∀ w1,Below wS.heap.size wS w1→w1.cell? ⟨g,o+j,none⟩=some (.int .i64 x)):=fun w1 hb=>HCAW.out w1 (BS2.out.trans (hb.mono BS2.out.size))
         have hcap:=X.out.rd.cap
         have htc:t≤cu:=Nat.le_trans ht hcap
         have htci:(t:Int)≤(cu:Int):=by omega
         go_wp2
         refine' reg_kill [(10,4),(10,9)] [(fun v z=>∃ g,v=Value.slice (some ⟨g,0,none⟩) 0 0),eqV _,eqV _,eqV _,(fun v z=>Owns .i64 3 z wS.heap.size v (U.take t)),eqV _,eqV _,eqV _,eqV _,(fun v z=>∃ g,v=Value.slice (some ⟨g,0,none⟩) 1 1∧z.heap[g]?=some (.cells #[.int .i64 x] 3 (0,0))),(fun v z=>Owns .i64 3 z wS.heap.size v (U.take t ++ [x])),(fun v z=>Owns .i64 3 z wS.heap.size v (U.take t ++ [x]))] [(10,fun _ z=>Below wS.heap.size wS z)] [(0,fun z=>Below wS.heap.size wS z),(3,fun z=>Below wS.heap.size wS z),(4,fun z=>Below wS.heap.size wS z),(8,fun z=>Below wS.heap.size wS z),(9,fun z=>Below wS.heap.size wS z),(10,fun z=>Below wS.heap.size wS z),(12,fun z=>Below wS.heap.size wS z)] [71,72,73,74,75,76,77,78,79,80,81,10] [[],[],[],[1,2],[0,3],[],[],[5,6],[7],[8],[4,9],[10]] [0,1,2,3,4,5,6,7,8,9,10,11] 12 (by kernel_rfl) (by kernel_rfl) ⟨fun _ _ _ p _=>p,eS _,eS _,eS _,fun _ _ _ p b=>Owns.below p b,eS _,eS _,eS _,eS _,fun _ _ _ ⟨g,e,p⟩ b=>⟨g,e,row_keep p b⟩,fun _ _ _ p b=>Owns.below p b,fun _ _ _ p b=>Owns.below p b,trivial⟩ ⟨⟨.inl (fun _ _ _ p _=>p),.inl (eS _),.inl (eS _),.inl (eS _),.inr (.inr (.inr (by kernel_rfl))),.inl (eS _),.inl (eS _),.inl (eS _),.inl (eS _),.inr (.inr (.inr (by kernel_rfl))),.inr (.inr (.inl rfl)),.inr (.inl (by kernel_rfl)),trivial⟩,trivial⟩ ⟨fun _ _ p b=>p.trans (b.mono p.size),fun _ _ p b=>p.trans (b.mono p.size),fun _ _ p b=>p.trans (b.mono p.size),fun _ _ p b=>p.trans (b.mono p.size),fun _ _ p b=>p.trans (b.mono p.size),fun _ _ p b=>p.trans (b.mono p.size),fun _ _ p b=>p.trans (b.mono p.size),trivial⟩ ⟨⟨.inr (.inl (by kernel_rfl)),.inr (.inl (by kernel_rfl)),.inr (.inl (by kernel_rfl)),.inr (.inl (by kernel_rfl)),.inr (.inl (by kernel_rfl)),.inr (.inr rfl),.inl (fun _ _ _ g=>g),trivial⟩,trivial⟩ ⟨(Below.refl wS.heap.size wS).drew,(Below.refl wS.heap.size wS).drew,(Below.refl wS.heap.size wS).drew,(Below.refl wS.heap.size wS).drew,(Below.refl wS.heap.size wS).drew,(Below.refl wS.heap.size wS).drew,(Below.refl wS.heap.size wS).drew,trivial⟩ 88 rfl (by kernel_rfl) (by kernel_rfl) rfl rfl 12 rfl ?q4obl ?q4fin
         case q4obl=>
          refine ⟨?q4o0,?q4o1,?q4o2,?q4o3,?q4o4,?q4o5,?q4o6,?q4o7,?q4o8,?q4o9,?q4o10,?q4o11,trivial⟩
          case q4o0=>
           intro w1 hI
           replace hI:(fun z=>Below wS.heap.size wS z) w1:=hI
           refine t2o (by rfl) ?_;intro K hK;go_simp
           refine hK _ _ ⟨rfl,below_a _ _,?_⟩
           show ∃ g,_=Value.slice (some ⟨g,0,none⟩) 0 0
           simp only [gv1]
           exact ⟨_,rfl⟩
          case q4o1 | q4o2 | q4o5 | q4o6=>
           intro w1 hI;refine t2o (by rfl) ?_;intro K hK;go_simp;refine hK _ _ ⟨rfl,Kept.refl _,?_⟩;show _=_;simp only [gv1];rfl
          case q4o3=>
           intro w1 hI
           replace hI:(fun z=>Below wS.heap.size wS z) w1:=hI
           intro v1 h1;change _=_ at h1;subst v1;intro v2 h2;change _=_ at h2;subst v2;refine t2o (by rfl) ?_;intro K hK;simp only [gv2];go_simp;refine hK _ _ ⟨rfl,Kept.refl _,?_⟩;show _=_;simp only [gv1];rfl
          case q4o4=>
           intro w1 hI
           replace hI:(fun z=>Below wS.heap.size wS z) w1:=hI
           intro v0 h0
           obtain ⟨g0,rfl⟩:=h0
           intro v3 h3;change _=_ at h3;subst v3;refine t2o (by rfl) ?_;intro K hK;simp only [gv2]
           refine wp_app_all 75 rfl intT intI (by decide) (.tmp 71) (.tmp 74) rfl w1 wS.heap.size (.slice (some ⟨g0,0,none⟩) 0 0) [] rfl (Owns.empty _ _ _ _ _ _) (some ⟨gu,ou,none⟩) t cu (U.take t) rfl (RdAt.front (HRU.out w1 hI) t (by omega)) (by simp <;> omega) hI.size ?_
           intro v9 w9 ho9 hg9
           refine hK _ _ ⟨rfl,hg9.fromNone,?_⟩
           show Owns _ _ _ _ _ _
           simp only [gv1]
           exact ho9
          case q4o7=>
           intro w1 hI;intro va ha;change _=_ at ha;subst va;intro vb hb;change _=_ at hb;subst vb;refine t2o (by rfl) ?_;intro K hK;simp only [gv2];go_simp;refine hK _ _ ⟨rfl,Kept.refl _,?_⟩;show _=_;simp only [gv1];rfl
          case q4o8=>
           intro w1 hI
           replace hI:(fun z=>Below wS.heap.size wS z) w1:=hI
           intro v7 h7;change _=_ at h7;subst v7;refine t2o (by rfl) ?_;intro K hK;simp only [gv2]
           have cx0:=HCA.out w1 hI
           go_simp;refine hK _ _ ⟨rfl,Kept.refl _,?_⟩;show _=_;simp only [gv1];rfl
          case q4o9=>
           intro w1 hI
           replace hI:(fun z=>Below wS.heap.size wS z) w1:=hI
           intro v8 h8;change _=_ at h8;subst v8;refine t2o (by rfl) ?_;intro K hK;simp only [gv2];go_simp
           refine hK _ _ ⟨rfl,below_a _ _,?_⟩
           show ∃ g,_=Value.slice (some ⟨g,0,none⟩) 1 1∧_
           simp only [gv1]
           exact ⟨_,rfl,heap_alloc_new _ _⟩
          case q4o10=>
           intro w1 hI
           replace hI:(fun z=>Below wS.heap.size wS z) w1:=hI
           intro v4 h4;intro v9 h9
           obtain ⟨g9,rfl,h9⟩:=h9
           refine t2o (by rfl) ?_;intro K hK;simp only [gv2]
           refine wp_app_all 81 rfl intT intI (by decide) (.tmp 75) (.tmp 80) rfl w1 wS.heap.size v4 (U.take t) rfl h4 (some ⟨g9,0,none⟩) 1 1 [x] rfl (rd_row1 h9 HWX.out) (by simp <;> omega) hI.size ?_
           intro v9 w9 ho9 hg9
           refine hK _ _ ⟨rfl,hg9.below hI.size (fun y e=>(h4.at_base y e).1) |> fun b=>hI.trans b,?_⟩
           show Owns _ _ _ _ _ _
           simp only [gv1]
           exact ho9
          case q4o11=>
           intro w1 hI;intro v10 h10;refine t2o (by rfl) ?_;intro K hK;simp only [gv2];go_simp;refine hK _ _ ⟨rfl,Kept.refl _,?_⟩
           show Owns _ _ _ _ _ _
           simp only [gv1]
           exact h10
         intro w1 hI
         replace hI:(fun z=>Below wS.heap.size wS z) w1:=hI
         intro v0 h0;replace h0:=h0 (by kernel_rfl)
         obtain ⟨g0,rfl⟩:=h0
         intro v1 h1;replace h1:=h1 (by kernel_rfl);change _=_ at h1;subst v1;intro v2 h2;replace h2:=h2 (by kernel_rfl);change _=_ at h2;subst v2;intro v3 h3;replace h3:=h3 (by kernel_rfl);change _=_ at h3;subst v3;intro v4 _;intro v5 h5;replace h5:=h5 (by kernel_rfl);change _=_ at h5;subst v5;intro v6 h6;replace h6:=h6 (by kernel_rfl);change _=_ at h6;subst v6
         intro v7 h7;replace h7:=h7 (by kernel_rfl);change _=_ at h7;subst v7;intro v8 h8;replace h8:=h8 (by kernel_rfl);change _=_ at h8;subst v8;intro v9 _;intro v10 h10;replace h10:=h10 (by kernel_rfl);intro v11 h11;replace h11:=h11 (by kernel_rfl)
         simp only [Given,gv2]
         have h11':=h11
         obtain ⟨a11,c11,rfl⟩:=Owns.shapeN h11 (t+1) (by rw [List.length_append,List.length_take];have:=HU.out;simp <;> omega)
         have BW:=Lib.hid hI;have O11:=Lib.hid h11
         have rp:=rd_pkI (HRU.out w1 hI) t ht
         obtain ⟨nD,hnD⟩:∃ nD,u - t=nD:=⟨_,rfl⟩
         obtain ⟨dD,hdD⟩:∃ dD,cu - t=dD:=⟨_,rfl⟩
         rw [show pkI cu t (some (⟨gu,ou,none⟩:Addr)) (some ⟨gu,ou+t,none⟩)=some ⟨gu,ou+t,none⟩ from if_neg (by omega),hnD,hdD] at rp;have RP:=Lib.hid rp
         have hnDb:nD≤2002:=by omega
         clear rp h11 hI
         go_wp2_with (at_builtin;refine app_all intT intI (by decide) rfl (.tmp 82) (.tmp 85) rfl _ wS.heap.size (.slice a11 (t+1) c11) (U.take t ++ [x]) rfl O11.out (some ⟨gu,ou+t,none⟩) nD dD (U.drop t) rfl RP.out (by rw [List.length_append,List.length_take];simp <;> omega) BW.out.size ?_;intro v12 w12 ho12 hg12)
         go_roundw
         case rel=>
          have hb12:Below wS.heap.size wS w12:=Below.trans BW.out (hg12.below BW.out.size (fun y e=>(O11.out.at_base y e).1))
          refine ⟨j+1,by omega,by go_num,?_,Below.trans BS2.out (hb12.mono BS2.out.size)⟩
          rw [HE.out,HEQ.out];rw [List.append_assoc] at ho12
          exact ho12.mono BS2.out.size
         case measure=>simp [intOf] <;> omega
      ·obtain rfl:t=u:=by omega
       have HEQ:Hid (insU x U=U.take t ++ x :: U.drop t):=by
        show _=_
        rw [insU_at HLT.out (by rw [HU.out];exact ht) (fun h=>by rw [HU.out] at h;omega),if_neg (fun e=>by have:=e.1;rw [HU.out] at this;omega)]
       clear hlu
       have dtt:decide ((t:Int) < (t:Int))=false:=decide_eq_false (by omega)
       go_wp2
       go_quiet (fail)
       obtain ⟨w2,hw2⟩:∃ w2,wr.drewN nq=w2:=⟨_,rfl⟩
       have B2:Hid (Below wI.heap.size wI w2):=by show Below _ _ _;rw [← hw2];exact Below.call BK.out (belowN (Below.refl _ _) _)
       rw [hw2];clear hw2
       go_wp2
       go_quiet (fail)
       obtain ⟨wS,hwS⟩:∃ wS,w2.drewN nq=wS:=⟨_,rfl⟩
       have BS:Hid (Below wI.heap.size wI wS):=by show Below _ _ _;rw [← hwS];exact Below.call B2.out (belowN (Below.refl _ _) _)
       rw [hwS];clear hwS hbA dtt htu
       cases au with
       | none=>
        obtain rfl:cu=0:=X.out.rd.void rfl
        obtain rfl:t=0:=by have:=X.out.rd.cap;omega
        have BS2:Hid (Below wL.heap.size wL wS):=Below.trans BI.out (BS.out.mono BI.out.size)
        have HRU:Hid (∀ w1,Below wS.heap.size wS w1→RdAt .i64 w1 (none) 0 0 U):=fun w1 hb=>(X.out.rd.below BS.out).below hb
        have HCA:Hid (∀ w1,Below wS.heap.size wS w1→w1.cell? ⟨g,o+j,none⟩=some (.int .i64 x)):=fun w1 hb=>HCAW.out w1 (BS2.out.trans (hb.mono BS2.out.size))
        have hcap:=X.out.rd.cap
        have htc:0≤0:=Nat.le_trans ht hcap
        have htci:(0:Int)≤(0:Int):=by omega
        go_wp2
        refine' reg_kill [(10,4),(10,9)] [(fun v z=>∃ g,v=Value.slice (some ⟨g,0,none⟩) 0 0),eqV _,eqV _,eqV _,(fun v z=>Owns .i64 3 z wS.heap.size v (U.take 0)),eqV _,eqV _,eqV _,eqV _,(fun v z=>∃ g,v=Value.slice (some ⟨g,0,none⟩) 1 1∧z.heap[g]?=some (.cells #[.int .i64 x] 3 (0,0))),(fun v z=>Owns .i64 3 z wS.heap.size v (U.take 0 ++ [x])),(fun v z=>Owns .i64 3 z wS.heap.size v (U.take 0 ++ [x]))] [(10,fun _ z=>Below wS.heap.size wS z)] [(0,fun z=>Below wS.heap.size wS z),(3,fun z=>Below wS.heap.size wS z),(4,fun z=>Below wS.heap.size wS z),(8,fun z=>Below wS.heap.size wS z),(9,fun z=>Below wS.heap.size wS z),(10,fun z=>Below wS.heap.size wS z),(12,fun z=>Below wS.heap.size wS z)] [71,72,73,74,75,76,77,78,79,80,81,10] [[],[],[],[1,2],[0,3],[],[],[5,6],[7],[8],[4,9],[10]] [0,1,2,3,4,5,6,7,8,9,10,11] 12 (by kernel_rfl) (by kernel_rfl) ⟨fun _ _ _ p _=>p,eS _,eS _,eS _,fun _ _ _ p b=>Owns.below p b,eS _,eS _,eS _,eS _,fun _ _ _ ⟨g,e,p⟩ b=>⟨g,e,row_keep p b⟩,fun _ _ _ p b=>Owns.below p b,fun _ _ _ p b=>Owns.below p b,trivial⟩ ⟨⟨.inl (fun _ _ _ p _=>p),.inl (eS _),.inl (eS _),.inl (eS _),.inr (.inr (.inr (by kernel_rfl))),.inl (eS _),.inl (eS _),.inl (eS _),.inl (eS _),.inr (.inr (.inr (by kernel_rfl))),.inr (.inr (.inl rfl)),.inr (.inl (by kernel_rfl)),trivial⟩,trivial⟩ ⟨fun _ _ p b=>p.trans (b.mono p.size),fun _ _ p b=>p.trans (b.mono p.size),fun _ _ p b=>p.trans (b.mono p.size),fun _ _ p b=>p.trans (b.mono p.size),fun _ _ p b=>p.trans (b.mono p.size),fun _ _ p b=>p.trans (b.mono p.size),fun _ _ p b=>p.trans (b.mono p.size),trivial⟩ ⟨⟨.inr (.inl (by kernel_rfl)),.inr (.inl (by kernel_rfl)),.inr (.inl (by kernel_rfl)),.inr (.inl (by kernel_rfl)),.inr (.inl (by kernel_rfl)),.inr (.inr rfl),.inl (fun _ _ _ g=>g),trivial⟩,trivial⟩ ⟨(Below.refl wS.heap.size wS).drew,(Below.refl wS.heap.size wS).drew,(Below.refl wS.heap.size wS).drew,(Below.refl wS.heap.size wS).drew,(Below.refl wS.heap.size wS).drew,(Below.refl wS.heap.size wS).drew,(Below.refl wS.heap.size wS).drew,trivial⟩ 88 rfl (by kernel_rfl) (by kernel_rfl) rfl rfl 12 rfl ?q2obl ?q2fin
        case q2obl=>
         refine ⟨?q2o0,?q2o1,?q2o2,?q2o3,?q2o4,?q2o5,?q2o6,?q2o7,?q2o8,?q2o9,?q2o10,?q2o11,trivial⟩
         case q2o0=>
          intro w1 hI
          replace hI:(fun z=>Below wS.heap.size wS z) w1:=hI
          refine t2o (by rfl) ?_;intro K hK;go_simp
          refine hK _ _ ⟨rfl,below_a _ _,?_⟩
          show ∃ g,_=Value.slice (some ⟨g,0,none⟩) 0 0
          simp only [gv1]
          exact ⟨_,rfl⟩
         case q2o1 | q2o2 | q2o5 | q2o6=>
          intro w1 hI;refine t2o (by rfl) ?_;intro K hK;go_simp;refine hK _ _ ⟨rfl,Kept.refl _,?_⟩;show _=_;simp only [gv1];rfl
         case q2o3=>
          intro w1 hI
          replace hI:(fun z=>Below wS.heap.size wS z) w1:=hI
          intro v1 h1;change _=_ at h1;subst v1;intro v2 h2;change _=_ at h2;subst v2;refine t2o (by rfl) ?_;intro K hK;simp only [gv2];go_simp;refine hK _ _ ⟨rfl,Kept.refl _,?_⟩;show _=_;simp only [gv1];rfl
         case q2o4=>
          intro w1 hI
          replace hI:(fun z=>Below wS.heap.size wS z) w1:=hI
          intro v0 h0
          obtain ⟨g0,rfl⟩:=h0
          intro v3 h3;change _=_ at h3;subst v3;refine t2o (by rfl) ?_;intro K hK;simp only [gv2]
          refine wp_app_all 75 rfl intT intI (by decide) (.tmp 71) (.tmp 74) rfl w1 wS.heap.size (.slice (some ⟨g0,0,none⟩) 0 0) [] rfl (Owns.empty _ _ _ _ _ _) (none) 0 0 (U.take 0) rfl (RdAt.front (HRU.out w1 hI) 0 (by omega)) (by simp <;> omega) hI.size ?_
          intro v9 w9 ho9 hg9
          refine hK _ _ ⟨rfl,hg9.fromNone,?_⟩
          show Owns _ _ _ _ _ _
          simp only [gv1]
          exact ho9
         case q2o7=>
          intro w1 hI;intro va ha;change _=_ at ha;subst va;intro vb hb;change _=_ at hb;subst vb;refine t2o (by rfl) ?_;intro K hK;simp only [gv2];go_simp;refine hK _ _ ⟨rfl,Kept.refl _,?_⟩;show _=_;simp only [gv1];rfl
         case q2o8=>
          intro w1 hI
          replace hI:(fun z=>Below wS.heap.size wS z) w1:=hI
          intro v7 h7;change _=_ at h7;subst v7;refine t2o (by rfl) ?_;intro K hK;simp only [gv2]
          have cx0:=HCA.out w1 hI
          go_simp;refine hK _ _ ⟨rfl,Kept.refl _,?_⟩;show _=_;simp only [gv1];rfl
         case q2o9=>
          intro w1 hI
          replace hI:(fun z=>Below wS.heap.size wS z) w1:=hI
          intro v8 h8;change _=_ at h8;subst v8;refine t2o (by rfl) ?_;intro K hK;simp only [gv2];go_simp
          refine hK _ _ ⟨rfl,below_a _ _,?_⟩
          show ∃ g,_=Value.slice (some ⟨g,0,none⟩) 1 1∧_
          simp only [gv1]
          exact ⟨_,rfl,heap_alloc_new _ _⟩
         case q2o10=>
          intro w1 hI
          replace hI:(fun z=>Below wS.heap.size wS z) w1:=hI
          intro v4 h4;intro v9 h9
          obtain ⟨g9,rfl,h9⟩:=h9
          refine t2o (by rfl) ?_;intro K hK;simp only [gv2]
          refine wp_app_all 81 rfl intT intI (by decide) (.tmp 75) (.tmp 80) rfl w1 wS.heap.size v4 (U.take 0) rfl h4 (some ⟨g9,0,none⟩) 1 1 [x] rfl (rd_row1 h9 HWX.out) (by simp <;> omega) hI.size ?_
          intro v9 w9 ho9 hg9
          refine hK _ _ ⟨rfl,hg9.below hI.size (fun y e=>(h4.at_base y e).1) |> fun b=>hI.trans b,?_⟩
          show Owns _ _ _ _ _ _
          simp only [gv1]
          exact ho9
         case q2o11=>
          intro w1 hI;intro v10 h10;refine t2o (by rfl) ?_;intro K hK;simp only [gv2];go_simp;refine hK _ _ ⟨rfl,Kept.refl _,?_⟩
          show Owns _ _ _ _ _ _
          simp only [gv1]
          exact h10
        intro w1 hI
        replace hI:(fun z=>Below wS.heap.size wS z) w1:=hI
        intro v0 h0;replace h0:=h0 (by kernel_rfl)
        obtain ⟨g0,rfl⟩:=h0
        intro v1 h1;replace h1:=h1 (by kernel_rfl);change _=_ at h1;subst v1;intro v2 h2;replace h2:=h2 (by kernel_rfl);change _=_ at h2;subst v2;intro v3 h3;replace h3:=h3 (by kernel_rfl);change _=_ at h3;subst v3;intro v4 _;intro v5 h5;replace h5:=h5 (by kernel_rfl);change _=_ at h5;subst v5;intro v6 h6;replace h6:=h6 (by kernel_rfl);change _=_ at h6;subst v6
        intro v7 h7;replace h7:=h7 (by kernel_rfl);change _=_ at h7;subst v7;intro v8 h8;replace h8:=h8 (by kernel_rfl);change _=_ at h8;subst v8;intro v9 _;intro v10 h10;replace h10:=h10 (by kernel_rfl);intro v11 h11;replace h11:=h11 (by kernel_rfl)
        simp only [Given,gv2]
        have h11':=h11
        obtain ⟨a11,c11,rfl⟩:=Owns.shapeN h11 (0+1) (by rw [List.length_append,List.length_take];have:=HU.out;simp <;> omega)
        have BW:=Lib.hid hI;have O11:=Lib.hid h11
        have rp:=HRU.out w1 hI
        have RP:=Lib.hid rp;clear rp h11 hI
        go_wp2_with (at_builtin;refine app_all intT intI (by decide) rfl (.tmp 82) (.tmp 85) rfl _ wS.heap.size (.slice a11 (0+1) c11) (U.take 0 ++ [x]) rfl O11.out none 0 0 (U) rfl RP.out (by rw [List.length_append,List.length_take];simp <;> omega) BW.out.size ?_;intro v12 w12 ho12 hg12)
        go_roundw
        case rel=>
         have hb12:Below wS.heap.size wS w12:=Below.trans BW.out (hg12.below BW.out.size (fun y e=>(O11.out.at_base y e).1))
         refine ⟨j+1,by omega,by go_num,?_,Below.trans BS2.out (hb12.mono BS2.out.size)⟩
         rw [HE.out,HEQ.out];rw [List.append_assoc] at ho12
         exact ho12.mono BS2.out.size
        case measure=>simp [intOf] <;> omega
       | some ua=>
        obtain ⟨gu,ou,hua⟩:∃ gu ou,ua=⟨gu,ou,none⟩:=own_addr X.out
        subst hua
        have BS2:Hid (Below wL.heap.size wL wS):=Below.trans BI.out (BS.out.mono BI.out.size)
        have HRU:Hid (∀ w1,Below wS.heap.size wS w1→RdAt .i64 w1 (some ⟨gu,ou,none⟩) t cu U):=fun w1 hb=>(X.out.rd.below BS.out).below hb
        have HCA:Hid (∀ w1,Below wS.heap.size wS w1→w1.cell? ⟨g,o+j,none⟩=some (.int .i64 x)):=fun w1 hb=>HCAW.out w1 (BS2.out.trans (hb.mono BS2.out.size))
        have hcap:=X.out.rd.cap
        have htc:t≤cu:=Nat.le_trans ht hcap
        have htci:(t:Int)≤(cu:Int):=by omega
        go_wp2
        refine' reg_kill [(10,4),(10,9)] [(fun v z=>∃ g,v=Value.slice (some ⟨g,0,none⟩) 0 0),eqV _,eqV _,eqV _,(fun v z=>Owns .i64 3 z wS.heap.size v (U.take t)),eqV _,eqV _,eqV _,eqV _,(fun v z=>∃ g,v=Value.slice (some ⟨g,0,none⟩) 1 1∧z.heap[g]?=some (.cells #[.int .i64 x] 3 (0,0))),(fun v z=>Owns .i64 3 z wS.heap.size v (U.take t ++ [x])),(fun v z=>Owns .i64 3 z wS.heap.size v (U.take t ++ [x]))] [(10,fun _ z=>Below wS.heap.size wS z)] [(0,fun z=>Below wS.heap.size wS z),(3,fun z=>Below wS.heap.size wS z),(4,fun z=>Below wS.heap.size wS z),(8,fun z=>Below wS.heap.size wS z),(9,fun z=>Below wS.heap.size wS z),(10,fun z=>Below wS.heap.size wS z),(12,fun z=>Below wS.heap.size wS z)] [71,72,73,74,75,76,77,78,79,80,81,10] [[],[],[],[1,2],[0,3],[],[],[5,6],[7],[8],[4,9],[10]] [0,1,2,3,4,5,6,7,8,9,10,11] 12 (by kernel_rfl) (by kernel_rfl) ⟨fun _ _ _ p _=>p,eS _,eS _,eS _,fun _ _ _ p b=>Owns.below p b,eS _,eS _,eS _,eS _,fun _ _ _ ⟨g,e,p⟩ b=>⟨g,e,row_keep p b⟩,fun _ _ _ p b=>Owns.below p b,fun _ _ _ p b=>Owns.below p b,trivial⟩ ⟨⟨.inl (fun _ _ _ p _=>p),.inl (eS _),.inl (eS _),.inl (eS _),.inr (.inr (.inr (by kernel_rfl))),.inl (eS _),.inl (eS _),.inl (eS _),.inl (eS _),.inr (.inr (.inr (by kernel_rfl))),.inr (.inr (.inl rfl)),.inr (.inl (by kernel_rfl)),trivial⟩,trivial⟩ ⟨fun _ _ p b=>p.trans (b.mono p.size),fun _ _ p b=>p.trans (b.mono p.size),fun _ _ p b=>p.trans (b.mono p.size),fun _ _ p b=>p.trans (b.mono p.size),fun _ _ p b=>p.trans (b.mono p.size),fun _ _ p b=>p.trans (b.mono p.size),fun _ _ p b=>p.trans (b.mono p.size),trivial⟩ ⟨⟨.inr (.inl (by kernel_rfl)),.inr (.inl (by kernel_rfl)),.inr (.inl (by kernel_rfl)),.inr (.inl (by kernel_rfl)),.inr (.inl (by kernel_rfl)),.inr (.inr rfl),.inl (fun _ _ _ g=>g),trivial⟩,trivial⟩ ⟨(Below.refl wS.heap.size wS).drew,(Below.refl wS.heap.size wS).drew,(Below.refl wS.heap.size wS).drew,(Below.refl wS.heap.size wS).drew,(Below.refl wS.heap.size wS).drew,(Below.refl wS.heap.size wS).drew,(Below.refl wS.heap.size wS).drew,trivial⟩ 88 rfl (by kernel_rfl) (by kernel_rfl) rfl rfl 12 rfl ?q3obl ?q3fin
        case q3obl=>
         refine ⟨?q3o0,?q3o1,?q3o2,?q3o3,?q3o4,?q3o5,?q3o6,?q3o7,?q3o8,?q3o9,?q3o10,?q3o11,trivial⟩
         case q3o0=>
          intro w1 hI
          replace hI:(fun z=>Below wS.heap.size wS z) w1:=hI
          refine t2o (by rfl) ?_;intro K hK;go_simp
          refine hK _ _ ⟨rfl,below_a _ _,?_⟩
          show ∃ g,_=Value.slice (some ⟨g,0,none⟩) 0 0
          simp only [gv1]
          exact ⟨_,rfl⟩
         case q3o1 | q3o2 | q3o5 | q3o6=>
          intro w1 hI;refine t2o (by rfl) ?_;intro K hK;go_simp;refine hK _ _ ⟨rfl,Kept.refl _,?_⟩;show _=_;simp only [gv1];rfl
         case q3o3=>
          intro w1 hI
          replace hI:(fun z=>Below wS.heap.size wS z) w1:=hI
          intro v1 h1;change _=_ at h1;subst v1;intro v2 h2;change _=_ at h2;subst v2;refine t2o (by rfl) ?_;intro K hK;simp only [gv2];go_simp;refine hK _ _ ⟨rfl,Kept.refl _,?_⟩;show _=_;simp only [gv1];rfl
         case q3o4=>
          intro w1 hI
          replace hI:(fun z=>Below wS.heap.size wS z) w1:=hI
          intro v0 h0
          obtain ⟨g0,rfl⟩:=h0
          intro v3 h3;change _=_ at h3;subst v3;refine t2o (by rfl) ?_;intro K hK;simp only [gv2]
          refine wp_app_all 75 rfl intT intI (by decide) (.tmp 71) (.tmp 74) rfl w1 wS.heap.size (.slice (some ⟨g0,0,none⟩) 0 0) [] rfl (Owns.empty _ _ _ _ _ _) (some ⟨gu,ou,none⟩) t cu (U.take t) rfl (RdAt.front (HRU.out w1 hI) t (by omega)) (by simp <;> omega) hI.size ?_
          intro v9 w9 ho9 hg9
          refine hK _ _ ⟨rfl,hg9.fromNone,?_⟩
          show Owns _ _ _ _ _ _
          simp only [gv1]
          exact ho9
         case q3o7=>
          intro w1 hI;intro va ha;change _=_ at ha;subst va;intro vb hb;change _=_ at hb;subst vb;refine t2o (by rfl) ?_;intro K hK;simp only [gv2];go_simp;refine hK _ _ ⟨rfl,Kept.refl _,?_⟩;show _=_;simp only [gv1];rfl
         case q3o8=>
          intro w1 hI
          replace hI:(fun z=>Below wS.heap.size wS z) w1:=hI
          intro v7 h7;change _=_ at h7;subst v7;refine t2o (by rfl) ?_;intro K hK;simp only [gv2]
          have cx0:=HCA.out w1 hI
          go_simp;refine hK _ _ ⟨rfl,Kept.refl _,?_⟩;show _=_;simp only [gv1];rfl
         case q3o9=>
          intro w1 hI
          replace hI:(fun z=>Below wS.heap.size wS z) w1:=hI
          intro v8 h8;change _=_ at h8;subst v8;refine t2o (by rfl) ?_;intro K hK;simp only [gv2];go_simp
          refine hK _ _ ⟨rfl,below_a _ _,?_⟩
          show ∃ g,_=Value.slice (some ⟨g,0,none⟩) 1 1∧_
          simp only [gv1]
          exact ⟨_,rfl,heap_alloc_new _ _⟩
         case q3o10=>
          intro w1 hI
          replace hI:(fun z=>Below wS.heap.size wS z) w1:=hI
          intro v4 h4;intro v9 h9
          obtain ⟨g9,rfl,h9⟩:=h9
          refine t2o (by rfl) ?_;intro K hK;simp only [gv2]
          refine wp_app_all 81 rfl intT intI (by decide) (.tmp 75) (.tmp 80) rfl w1 wS.heap.size v4 (U.take t) rfl h4 (some ⟨g9,0,none⟩) 1 1 [x] rfl (rd_row1 h9 HWX.out) (by simp <;> omega) hI.size ?_
          intro v9 w9 ho9 hg9
          refine hK _ _ ⟨rfl,hg9.below hI.size (fun y e=>(h4.at_base y e).1) |> fun b=>hI.trans b,?_⟩
          show Owns _ _ _ _ _ _
          simp only [gv1]
          exact ho9
         case q3o11=>
          intro w1 hI;intro v10 h10;refine t2o (by rfl) ?_;intro K hK;simp only [gv2];go_simp;refine hK _ _ ⟨rfl,Kept.refl _,?_⟩
          show Owns _ _ _ _ _ _
          simp only [gv1]
          exact h10
        intro w1 hI
        replace hI:(fun z=>Below wS.heap.size wS z) w1:=hI
        intro v0 h0;replace h0:=h0 (by kernel_rfl)
        obtain ⟨g0,rfl⟩:=h0
        intro v1 h1;replace h1:=h1 (by kernel_rfl);change _=_ at h1;subst v1;intro v2 h2;replace h2:=h2 (by kernel_rfl);change _=_ at h2;subst v2;intro v3 h3;replace h3:=h3 (by kernel_rfl);change _=_ at h3;subst v3;intro v4 _;intro v5 h5;replace h5:=h5 (by kernel_rfl);change _=_ at h5;subst v5;intro v6 h6;replace h6:=h6 (by kernel_rfl);change _=_ at h6;subst v6
        intro v7 h7;replace h7:=h7 (by kernel_rfl);change _=_ at h7;subst v7;intro v8 h8;replace h8:=h8 (by kernel_rfl);change _=_ at h8;subst v8;intro v9 _;intro v10 h10;replace h10:=h10 (by kernel_rfl);intro v11 h11;replace h11:=h11 (by kernel_rfl)
        simp only [Given,gv2]
        have h11':=h11
        obtain ⟨a11,c11,rfl⟩:=Owns.shapeN h11 (t+1) (by rw [List.length_append,List.length_take];have:=HU.out;simp <;> omega)
        have BW:=Lib.hid hI;have O11:=Lib.hid h11
        have rp:=rd_pkI (HRU.out w1 hI) t ht
        obtain ⟨nD,hnD⟩:∃ nD,t - t=nD:=⟨_,rfl⟩
        obtain ⟨dD,hdD⟩:∃ dD,cu - t=dD:=⟨_,rfl⟩
        have hif:∀ (A B:Option Addr),(if cu=t then A else B)=pkI cu t A B:=fun _ _=>rfl
        obtain ⟨a1,ha1⟩:∃ a1,pkI cu t (some (⟨gu,ou,none⟩:Addr)) (some ⟨gu,ou+t,none⟩)=a1:=⟨_,rfl⟩
        rw [ha1,hnD,hdD] at rp
        obtain rfl:nD=0:=by omega
        clear hnD;have RP:=Lib.hid rp;clear rp h11 hI
        go_wp2_with (at_builtin;refine app_all intT intI (by decide) rfl (.tmp 82) (.tmp 85) rfl _ wS.heap.size (.slice a11 (t+1) c11) (U.take t ++ [x]) rfl O11.out a1 0 dD (U.drop t) rfl RP.out (by rw [List.length_append,List.length_take];simp <;> omega) BW.out.size ?_;intro v12 w12 ho12 hg12)
        go_roundw
        case rel=>
         have hb12:Below wS.heap.size wS w12:=Below.trans BW.out (hg12.below BW.out.size (fun y e=>(O11.out.at_base y e).1))
         refine ⟨j+1,by omega,by go_num,?_,Below.trans BS2.out (hb12.mono BS2.out.size)⟩
         rw [HE.out,HEQ.out];rw [List.append_assoc] at ho12
         exact ho12.mono BS2.out.size
        case measure=>simp [intOf] <;> omega
    ·obtain rfl:j=q:=by omega
     have hl:=HQ.out
     have e:A.take j=A:=List.take_of_length_le (by omega)
     rw [e] at X;clear hl e
     go_wp2
     go_ret
     rw [HGOAL.out]
     exact ⟨_,rfl,X.out.mono B.out.size,Below.call B.out BI.out⟩
end Go.Proofs.YtoepnbfifjgpfaaGreat
