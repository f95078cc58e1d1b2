/- ParamHeavier, the plain part: of two tasks that may be one is heavier; what stands in the walk shows all of it. -/
import Derived.Test.YtmgmpifbhjoijaaPParamHeavierx3
import Derived.Test.YtmgmpifbhjoijaaMDem

namespace Go.Proofs.Ytmgmpifbhjoijaa.Pure
open Go.RowKit Go.Proofs.Ytmgmpifbhjoijaa.PParamHeavier Go.Proofs.YtmgmpifbhjoijaaW.PrintWords Go.Proofs.YtmgmpifbhjoijaaW.PrintLast Go.Proofs.YtmgmpifbhjoijaaW.PrintMore
set_option linter.unusedVariables false
set_option linter.unusedSimpArgs false


theorem ParamHeavier : horariumlaw09_ParamHeavier.Pure := by
  intro a b c d e f _ _ _ _ _ _
  rfl
end Go.Proofs.Ytmgmpifbhjoijaa.Pure
