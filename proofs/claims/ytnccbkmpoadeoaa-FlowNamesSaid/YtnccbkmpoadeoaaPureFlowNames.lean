/- FlowNames: the pure statement that the print leaves: the closed sentence's printed function answers true. No conditions. -/
import Derived.Test.YtnccbkmpoadeoaaPFlowNamesx1
namespace Go.Proofs.Ytnccbkmpoadeoaa.Pure
open Go.RowKit Go.Proofs.Ytnccbkmpoadeoaa.PFlowNames Go.Proofs.YtnccbkmpoadeoaaW.PrintWords Go.Proofs.YtnccbkmpoadeoaaW.PrintLast

theorem FlowNames : bulkheadlaw13_FlowNames.Pure := by
  unfold bulkheadlaw13_FlowNames.Pure
  rfl

end Go.Proofs.Ytnccbkmpoadeoaa.Pure
