/- The walk of almanaclaw15.RegionLooks: its cases joined. -/
import Derived.Test.YtoampbdipmecmaaRegionLooksA
import Derived.Test.YtoampbdipmecmaaRegionLooksB
import Derived.Test.YtoampbdipmecmaaRegionLooksC
namespace Go.Proofs.Ytoampbdipmecmaa
open Go.RowKit Go.Shelf Go.Proofs
set_option maxRecDepth 100000 in
set_option linter.unusedVariables false in
theorem regionLooks_walk (a0 : Option Addr) (n c0 : Nat) (L : List Rg) (page lo hi ways stop : Int) (w : World) (h : RdS Rg.cells 3 w a0 n c0 L) (hpage : (Lit.int .i64 page).wf = true) (hlo : (Lit.int .i64 lo).wf = true) (hhi : (Lit.int .i64 hi).wf = true) (hways : (Lit.int .i64 ways).wf = true) (hstop : (Lit.int .i64 stop).wf = true) :
    Calls Try.prog 6 #[.slice a0 n c0, .int .i64 page, .int .i64 lo, .int .i64 hi, .int .i64 ways, .int .i64 stop] w fun e w' => e = .returned (.bool true) ∧ Below w.heap.size w w' := by
  by_cases h1 : 60 < n
  · exact looks_over0 a0 n c0 page lo hi ways stop w h1
  by_cases h2 : 1099511627776 < hi
  · exact looks_over1 a0 n c0 page lo hi ways stop w h1 h2
  by_cases h3 : ways < 0
  · exact looks_inA a0 n c0 L page lo hi ways stop w h (by omega) (by omega) hlo hhi h3
  by_cases h4 : 3 < ways
  · exact looks_inB a0 n c0 L page lo hi ways stop w h (by omega) (by omega) hlo hhi h4
  by_cases h5 : lo < 0
  · exact looks_inC a0 n c0 L page lo hi ways stop w h (by omega) (by omega) hlo hhi ⟨by omega, by omega, h5⟩
  exact looks_in a0 n c0 L page lo hi ways stop w h (by omega) (by omega) hlo hhi ⟨by omega, by omega, by omega⟩
end Go.Proofs.Ytoampbdipmecmaa
