/- An argument that is a struct of nine ints, by value. No program in sight. -/
import Derived.WalkKit
import Derived.ProofKit
import Derived.OpenShut
namespace Go.Proofs.YtoepnbfifjgpfaaGreat
open Go.ChangeShapes Go.WideShapes Go.ChangeAt Go.RowKit
def nineInts (P:Program) (e:TypeId) (fs:Array Field):Bool:=fs.size == 9 && (List.range 9).all fun i=>match fs[i]? with | some f=>f.offset == i && f.type == e && P.cellsOf f.type == 1 | none=>false
theorem list_nine {α:Type} {l:List α} (h:l.length=9):∃ c0 c1 c2 c3 c4 c5 c6 c7 c8,l=[c0,c1,c2,c3,c4,c5,c6,c7,c8]:=by
 match l,h with
 | [c0,c1,c2,c3,c4,c5,c6,c7,c8],_=>exact ⟨_,_,_,_,_,_,_,_,_,rfl⟩
theorem open_nine {H:Type} {enc:TypeId × Value→H} {P:Program} {w:World} {base:Nat} {spare:Nat→Bool} {held:Bool} {r:Reach} {b0:Nat} {t e:TypeId} {fs:Array Field} {v:Value} {d:DataW H} {p:List MemPlace}
  (hs:P.underlying t=some (.struct fs)) (hone:nineInts P e fs=true) (hC:P.cellsOf t=9) (he:P.underlying e=some (.int .i64)) (hv:Value.okWide P w r b0 t v) (h:DataW.Trod enc P w base spare held t v d p) :
  ∃ a0 a1 a2 a3 a4 a5 a6 a7 a8:Int,v = .agg #[.int .i64 a0,.int .i64 a1,.int .i64 a2,.int .i64 a3,.int .i64 a4,.int .i64 a5,.int .i64 a6,.int .i64 a7,.int .i64 a8]:=by
 obtain ⟨cs,rfl,hsz⟩:=okWide_struct hs hv
 obtain ⟨l⟩:=cs
 obtain ⟨c0,c1,c2,c3,c4,c5,c6,c7,c8,rfl⟩:=list_nine (hsz.trans hC)
 obtain ⟨fuel,hf⟩:=h
 obtain ⟨xs,n,_,_,_,hlen,hg⟩:=DataW.trod_struct hs hf
 unfold nineInts at hone
 rw [Bool.and_eq_true] at hone
 have h9:fs.size=9:=by simpa using hone.1
 have hall:=List.all_eq_true.1 hone.2
 have key:∀ (i:Nat) (c:Value),i < 9→[c0,c1,c2,c3,c4,c5,c6,c7,c8][i]?=some c→∃ a:Int,c = .int .i64 a:=by
  intro i c hi hc
  have hx:=hall i (by simpa using hi)
  obtain ⟨f,hfi⟩:∃ f,fs[i]?=some f:=⟨_,Array.getElem?_eq_getElem (by omega)⟩
  rw [hfi] at hx
  simp only [Bool.and_eq_true,beq_iff_eq] at hx
  obtain ⟨⟨o,te⟩,k1⟩:=hx
  have h1:=hg i f hfi
  rw [o,k1] at h1
  have hl:(([c0,c1,c2,c3,c4,c5,c6,c7,c8]:List Value).drop i).take 1=[c]:=by
   obtain ⟨hil,hie⟩:=List.getElem?_eq_some_iff.1 hc
   rw [List.drop_eq_getElem_cons hil,hie];rfl
  rw [te] at h1
  replace h1:DataW.trod enc P w base spare held n e ((([c0,c1,c2,c3,c4,c5,c6,c7,c8]:List Value).drop i).take 1)=xs[i]?:=h1
  rw [hl] at h1
  have hxi:xs[i]?=some (xs[i]'(by omega)):=List.getElem?_eq_getElem (by omega)
  rw [hxi] at h1
  obtain ⟨a,hca,_,_⟩:=DataW.trod_int he h1
  exact ⟨a,by simpa using hca⟩
 obtain ⟨x0,rfl⟩:=key 0 c0 (by omega) rfl
 obtain ⟨x1,rfl⟩:=key 1 c1 (by omega) rfl
 obtain ⟨x2,rfl⟩:=key 2 c2 (by omega) rfl
 obtain ⟨x3,rfl⟩:=key 3 c3 (by omega) rfl
 obtain ⟨x4,rfl⟩:=key 4 c4 (by omega) rfl
 obtain ⟨x5,rfl⟩:=key 5 c5 (by omega) rfl
 obtain ⟨x6,rfl⟩:=key 6 c6 (by omega) rfl
 obtain ⟨x7,rfl⟩:=key 7 c7 (by omega) rfl
 obtain ⟨x8,rfl⟩:=key 8 c8 (by omega) rfl
 exact ⟨_,_,_,_,_,_,_,_,_,rfl⟩
end Go.Proofs.YtoepnbfifjgpfaaGreat
