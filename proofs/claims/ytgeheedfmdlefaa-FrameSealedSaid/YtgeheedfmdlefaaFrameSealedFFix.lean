/- The chapter's examples hold. -/
import Derived.Test.YtgeheedfmdlefaaFrameSealedFns1
namespace Go.Proofs.Ytgeheedfmdlefaa.Pure
open Go.RowKit Go.Proofs.Ytgeheedfmdlefaa.PF Go.Proofs.YtgeheedfmdlefaaW.PrintWords Go.Proofs.YtgeheedfmdlefaaW.PrintLast Go.Proofs.YtgeheedfmdlefaaW.PrintMore
theorem fixed_at : lw_fixed.f 1000 = some true := by decide +kernel
theorem fixed_true {k : Nat} (h : 1000 ≤ k) : lw_fixed.f k = some true := at_rounds lw_fixed.mono h fixed_at
end Go.Proofs.Ytgeheedfmdlefaa.Pure
