/-
  THE WALK of twainlaw18.PlanChecks: it returns true, whatever the plan.
-/
import Derived.Test.YtklofgfkaaoipaaGreatDoorMChecksA
import Derived.Test.YtklofgfkaaoipaaGreatDoorMChecksB
set_option maxHeartbeats 16000000
set_option maxRecDepth 100000
set_option linter.unusedSimpArgs false
set_option linter.unusedVariables false
namespace Go.Proofs.YtklofgfkaaoipaaGreatDoor
open Go.RowKit Go.Proofs.Tryz
theorem zd1 (p:MPlan)(v:PVals)(w:World)(a:PlanIn w.heap.size w p v)(b:yC w)(c:YP w):
  Calls prog 3 #[.agg (qn p v)] w (qM (.bool true) w):=by
 rcases hg:Y9 (qR p) with _ | _
 ·exact zgZ p v w a b c hg
 ·exact zg0 p v w a b c hg
end Go.Proofs.YtklofgfkaaoipaaGreatDoor
