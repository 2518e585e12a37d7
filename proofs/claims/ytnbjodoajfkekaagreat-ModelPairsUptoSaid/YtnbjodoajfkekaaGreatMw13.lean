/- model: a row of slices of bytes beside a machine (as ring's, with Tn for what turned). What the laws' walks begin with. What one process does, plainly: what it leaves. The document's machine: how much it weighs, what changes; two like answers (Weight, Changes, Same). -/
import Derived.Test.YtnbjodoajfkekaaGreatMv0
import Derived.Test.YtnbjodoajfkekaaGreatMv15
import Derived.Test.YtnbjodoajfkekaaGreatMv1
import Derived.Test.YtnbjodoajfkekaaGreatMv10
import Derived.OwnWalk
import Derived.Test.YtnbjodoajfkekaaGreatMv25
import Derived.Test.YtnbjodoajfkekaaGreatMw12
import Derived.Test.YtnbjodoajfkekaaGreatMw9
import Derived.WalkKit
import Derived.ProofKit
import Derived.BigQuiet
import Derived.Deep.QuietTactic
import Derived.Lib.Hide
import Derived.RegionTactic
import Derived.Test.YtnbjodoajfkekaaGreatMw11
import Derived.Test.YtnbjodoajfkekaaGreatMv19
import Derived.Test.YtnbjodoajfkekaaGreatMw8
import Derived.Test.YtnbjodoajfkekaaGreatMw4
namespace Go.Proofs.YtnbjodoajfkekaaGreat
open Go.RowKit
section
variable {ops:Array Oper} {rest:List Oper} {o:Oper} {act:Act} {E:Exit→Act→World→Prop}
end
set_option linter.unusedSimpArgs false
theorem OpsAt.below {w w':World} {a:Option Addr} {n:Nat} {L:List OpP} (h:OpsAt w a n L) (hb:Below w.heap.size w w'):OpsAt w' a n L:=
 ⟨h.len,fun i A hA=>by
  obtain ⟨b,o,e,ho⟩:=h.at_ i A hA
  obtain ⟨a5,n5,c5,y0,y1,y2,y3,y4,y5,hr⟩:=ho.ex
  have hc:∀ {j v},w.cell? ⟨b,j,none⟩=some v→w'.cell? ⟨b,j,none⟩=some v:=fun {j v} e=>cel hb e
  exact ⟨b,o,e,⟨a5,n5,c5,hc y0,hc y1,hc y2,hc y3,hc y4,hc y5,hr.below hb⟩,ho.wf⟩⟩
theorem stepM_c (st:Mc) (o:Opn):(stepM st o).c=st.c:=by
 unfold stepM
 split
 ·rfl
 ·repeat' split
  all_goals rfl
theorem runM_c (st:Mc):∀ (L:List OpP),(runM st L).c=st.c:=by
 intro L
 induction L generalizing st with
 | nil=>rfl
 | cons A r ih=>exact (ih (stepM st A.o)).trans (stepM_c st A.o)
theorem SameP.refl (st:Mc):SameP st st:=⟨rfl,rfl,fun _ _=>rfl,fun _ _ _=>rfl,fun _ _ _=>rfl⟩
section
variable {No:Nat→Prop} {h:RmH} {st:Mc} {w:World}
end
end Go.Proofs.YtnbjodoajfkekaaGreat
