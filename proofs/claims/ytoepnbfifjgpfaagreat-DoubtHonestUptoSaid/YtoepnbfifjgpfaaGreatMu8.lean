/- region: SortFunc of the regions that the call owns, by where they begin. -/
import Derived.Test.YtoepnbfifjgpfaaGreatMu4
import Derived.Test.YtoepnbfifjgpfaaGreatMu7
import Derived.Sort.OwnSorted
namespace Go.Proofs.YtoepnbfifjgpfaaGreat
set_option maxRecDepth 100000
open Go.RowKit Go.Shelf Go.Sort Go.Lib Go.Proofs
/-- A region that begins where an int may. -/
structure Low where
  val:Rg
  lt:0≤val.lo∧val.lo≤1099511627776
instance:Inhabited Low:=⟨⟨⟨0,0,0⟩,by decide⟩⟩
def Low.enc (x:Low):List Value:=Rg.cells x.1
theorem lowC:Cellular Low.enc 3:=⟨fun _=>rfl,fun x=>rgC.one x.1,by decide⟩
def Low.cf (x y:Low):Int:=x.1.lo - y.1.lo
theorem low_lt (x y:Low):ltOf Low.cf x y=decide (x.1.lo < y.1.lo):=by
  unfold ltOf Low.cf
  by_cases h:x.1.lo < y.1.lo
  · rw [decide_eq_true h,decide_eq_true (by omega)]
  · rw [decide_eq_false h,decide_eq_false (by omega)]
theorem low_swo:SWO (ltOf Low.cf) where
  irrefl x:=by rw [low_lt];simp
  trans x y z h1 h2:=by rw [low_lt] at *;simp at *;omega
  ntrans x y z h1 h2:=by rw [low_lt] at *;simp at *;omega
set_option maxHeartbeats 1000000 in
theorem low_cmp (x y:Low) (W:World):Calls Tryz.prog 118 #[.agg (Low.enc x).toArray,.agg (Low.enc y).toArray] W fun e w'=>e = .returned (.int .i64 (Low.cf x y))∧∃ q os',w'=grow (W.drewN q) os':=by
  obtain ⟨⟨xl,xh,xp⟩,hx1,hx2⟩:=x
  obtain ⟨⟨yl,yh,yp⟩,hy1,hy2⟩:=y
  replace hx1:0≤xl:=hx1
  replace hx2:xl≤1099511627776:=hx2
  replace hy1:0≤yl:=hy1
  replace hy2:yl≤1099511627776:=hy2
  show Calls _ _ #[.agg #[.int .i64 xl,.int .i64 xh,.int .i64 xp],.agg #[.int .i64 yl,.int .i64 yh,.int .i64 yp]] W fun e w'=>e = .returned (.int .i64 (xl - yl))∧_
  go_enter Tryz.func118,Tryz.ntmps118
  go_wp2
  go_ret
  exact ⟨rfl,0,_,by rw [alloc_eq_grow,alloc_eq_grow,grow_grow];rfl⟩
theorem low_list:∀ {L:List Rg},(∀ r ∈ L,0≤r.lo∧r.lo≤1099511627776)→∃ M:List Low,M.map (·.1)=L
  | [],_=>⟨[],rfl⟩
  | r :: L,h=>by
    obtain ⟨M,hM⟩:=low_list (L:=L) (fun s hs=>h s (List.mem_cons_of_mem _ hs))
    exact ⟨⟨r,h r (List.mem_cons_self ..)⟩ :: M,by rw [List.map_cons,hM]⟩
theorem low_flat (M:List Low):M.flatMap Low.enc=(M.map (·.1)).flatMap Rg.cells:=by
  induction M with
  | nil=>rfl
  | cons x M ih=>rw [List.flatMap_cons,List.map_cons,List.flatMap_cons,ih];rfl
theorem flatK_list (M:List Low):(flatK Low.enc 3 M.toArray).toList=M.flatMap Low.enc:=by
  apply List.ext_getElem?
  intro t
  by_cases ht:t < M.length * 3
  · have hi:t / 3 < M.length:=by omega
    have h1:=flat_at lowC M (t / 3) M[t / 3] (List.getElem?_eq_getElem hi) (t % 3) ((Low.enc M[t / 3])[t % 3]'(by rw [lowC.len];omega)) (List.getElem?_eq_getElem _)
    rw [show t / 3 * 3+t % 3=t by omega] at h1
    rw [h1]
    have h2:=get_flatK Low.enc 3 M.toArray t (by simpa using ht)
    have hs:t < (flatK Low.enc 3 M.toArray).size:=by simpa using ht
    rw [getElem!_pos _ t hs] at h2;rw [Array.getElem?_toList,Array.getElem?_eq_getElem hs,h2]
    have e1:(M.toArray)[t / 3]! = M[t / 3]:=by rw [getElem!_pos _ _ (by simpa using hi)];simp
    rw [e1,getElem!_pos _ _ (by rw [lowC.len];omega)]
  · rw [List.getElem?_eq_none (by simp;omega),List.getElem?_eq_none (by rw [flat_len lowC];omega)]
theorem heap_sortedV {w : World} {g n : Nat} {os : Array Obj} {cur : Array Value} {e : TypeId} {fr : Nat × Nat} (F : Array Value) (hb : w.heap[g]? = some (.cells cur e fr)) :
    (grow (putRow id (Sort.ahead w n) g 0 F) os).heap[g]?=some (.cells (putCells id 0 F cur) e fr):=by
  have hg:g < w.heap.size:=(Array.getElem?_eq_some_iff.1 hb).1
  rw [heap_grow_old _ _ (by simpa using hg)]
  simp [putRow,mapBlock,Sort.ahead,Array.getElem?_modify,hb,onCells]
theorem grownBy_sortedV {w:World} {g n:Nat} {os:Array Obj} (F:Array Value):w.grownBy (grow (putRow id (Sort.ahead w n) g 0 F) os) (some g):=by
  refine ⟨rfl,rfl,rfl,by simp,fun k hk hne=>?_⟩
  rw [heap_grow_old _ _ (by simpa using hk)]
  have:g ≠ k:=fun e=>hne (by rw [e])
  simp [putRow,mapBlock,Sort.ahead,Array.getElem?_modify,this]
theorem take_putCellsV (cur F:Array Value) (h:F.size≤cur.size):(putCells id 0 F cur).toList.take F.size=F.toList:=by
  apply List.ext_getElem?
  intro j
  by_cases hj:j < F.size
  · rw [List.getElem?_take_of_lt hj,Array.getElem?_toList]
    simp [putCells,hj,show j < cur.size by omega]
  · rw [List.getElem?_take_eq_none (by omega),List.getElem?_eq_none (by simp;omega)]
set_option maxHeartbeats 1000000 in
/-- SortFunc, of regions that the call owns: the same slice owns them in the order of where they begin. -/
theorem sortR_any (base : Nat) (v : Value) (L : List Rg) (w : World) (h : OwnsS Rg.cells 3 110 w base v L) (hl : ∀ r ∈ L, 0 ≤ r.lo ∧ r.lo ≤ 1099511627776) (hn : 0 < L.length) (hn2 : L.length ≤ 1000000) :
    Calls Tryz.prog 117 #[v,.func (.func 118) #[] #[]] w fun e w'=>e = .returned (.tuple #[])∧∃ d,OwnsS Rg.cells 3 110 w' base v d∧d.Perm L∧d.Pairwise (fun a c=>a.lo≤c.lo)∧w.grownBy w' (room v):=by
  obtain ⟨M,hM⟩:=low_list hl
  have hMl:M.length=L.length:=by rw [← hM];simp
  rcases h with ⟨rfl,_⟩ | h
  · simp at hn
  rcases h.2 with ⟨_,h0⟩ | ⟨g,cap,cur,rfl,hg,hh,hnc,hcm,hcs,ht⟩
  · omega
  have hflat:M.flatMap Low.enc=L.flatMap Rg.cells:=by rw [low_flat,hM]
  have hH:HoldsK Low.enc 3 w g 0 M.toArray:=by
    intro j hj
    have hj':j < L.length * 3:=by simpa [hMl] using hj
    refine ⟨?_,by simp [World.frozen?,hh]⟩
    rw [Nat.zero_add,cell_of_row w g j _ _ _ hh]
    have h1:(cur.toList.take (L.length * 3))[j]?=(L.flatMap Rg.cells)[j]?:=by rw [ht]
    rw [List.getElem?_take_of_lt hj',Array.getElem?_toList,← hflat,← flatK_list,Array.getElem?_toList] at h1;rw [h1,Array.getElem?_eq_getElem hj,getElem!_pos _ j hj];rfl
  have eg:∀ args w,(callFunc 118 args).run Tryz.prog w = .ok (.enter 118 args) w:=enters_of Tryz.func118 (by kernel_rfl) rfl
  have hcmp:CmpLays Tryz.prog 118 #[] Low.enc 3 Low.cf g 0 M.toArray.size w:=fun _ _ _ _ x y=>low_cmp x y _
  have hcon:=AnyQ.slices_SortFunc sortR 3 Tryz.isAgg110 Tryz.sizeOf110 Low.enc lowC.len lowC.one Low.cf low_swo 118 #[] g 0 cap M.toArray w eg hcmp hH (Array.getElem?_eq_some_iff.1 hh).1 (by simp;omega)
  change Calls Tryz.prog 117 _ _ _ at hcon
  rw [show M.toArray.size=L.length by simp [hMl]] at hcon
  refine hcon.mono ?_
  rintro e w' ⟨rfl,d',n,os,⟨p1,_,p3⟩,hs,rfl⟩
  refine ⟨rfl,?_⟩
  obtain ⟨D⟩:=d'
  have hDl : D.length = L.length := by have e : D.length = M.length := by simpa using p1
                                       omega
  have hperm:D.Perm M:=by
    have e1:((⟨D⟩:Array Low).extract 0 L.length).toList=D:=by simp [← hDl]
    have e2:(M.toArray.extract 0 L.length).toList=M:=by simp [← hMl]
    rw [e1,e2] at p3
    exact p3
  refine ⟨D.map (·.1),.inr ?_,by rw [← hM];exact hperm.map _,?_,?_⟩
  · have hfd:(D.map (·.1)).flatMap Rg.cells=(flatK Low.enc 3 D.toArray).toList:=by rw [flatK_list,low_flat]
    refine ⟨by rw [flat_len rgC],.inr ⟨g,cap,_,by rw [List.length_map,hDl],hg,heap_sortedV _ hh,by rw [List.length_map];omega,hcm,by simp [putCells,hcs],?_⟩⟩
    rw [hfd,List.length_map]
    have e:D.length * 3=(flatK Low.enc 3 D.toArray).size:=by simp
    rw [e]
    exact take_putCellsV cur _ (by rw [← e,hcs,hDl];exact Nat.mul_le_mul_right _ hnc)
  · rw [List.pairwise_map,List.pairwise_iff_getElem]
    intro i j hi hj hij
    have:=hs i j (Nat.zero_le _) hij (by omega)
    rw [low_lt,decide_eq_false_iff_not] at this
    have e1:(⟨D⟩:Array Low)[i]! = D[i]:=by rw [getElem!_pos _ i hi];rfl
    have e2:(⟨D⟩:Array Low)[j]! = D[j]:=by rw [getElem!_pos _ j hj];rfl
    rw [e1,e2] at this
    omega
  · by_cases hc:cap=0
    · omega
    · rw [show room (.slice (some ⟨g,0,none⟩) L.length cap)=some g by simp [room,hc]]
      exact grownBy_sortedV _
end Go.Proofs.YtoepnbfifjgpfaaGreat
