/- PageNames: the pure statement that the print leaves: the closed sentence's printed function answers true. No conditions. -/
import Derived.Test.YtkgddioflnjecaaPPageNamesx1
namespace Go.Proofs.Ytkgddioflnjecaa.Pure
open Go.RowKit Go.Proofs.Ytkgddioflnjecaa.PPageNames Go.Proofs.YtkgddioflnjecaaW.PrintWords Go.Proofs.YtkgddioflnjecaaW.PrintLast

theorem PageNames : bulkheadlaw09_PageNames.Pure := by
  unfold bulkheadlaw09_PageNames.Pure
  rfl

end Go.Proofs.Ytkgddioflnjecaa.Pure
