/- HeapPlays, the plain part: all of it is said by the walk. -/
import Derived.Test.YtbkjoojfpmokaaaPHeapPlaysx3
import Derived.Test.YtbkjoojfpmokaaaMHeapT
import Derived.Test.YtbkjoojfpmokaaaMRangeX
import Derived.Test.YtbkjoojfpmokaaaMRangeOwn

namespace Go.Proofs.Ytbkjoojfpmokaaa.Pure
open Go.RowKit Go.Proofs.Ytbkjoojfpmokaaa.PHeapPlays Go.Proofs.YtbkjoojfpmokaaaW.PrintWords Go.Proofs.YtbkjoojfpmokaaaW.PrintLast Go.Proofs.YtbkjoojfpmokaaaW.PrintMore
set_option linter.unusedVariables false
set_option linter.unusedSimpArgs false


theorem HeapPlays : horariumlaw16_HeapPlays.Pure := by
  intro l m _ _ _ _ _ _
  rfl
end Go.Proofs.Ytbkjoojfpmokaaa.Pure
