/- EdfPlays, the plain part: all of it is said by the walk. -/
import Derived.Test.YtbkjoojfpmokaaaPEdfPlaysx5
import Derived.Test.YtbkjoojfpmokaaaMHeapT
import Derived.Test.YtbkjoojfpmokaaaMHeapG
import Derived.Test.YtbkjoojfpmokaaaMRangeX
import Derived.Test.YtbkjoojfpmokaaaMRangeXA
import Derived.Test.YtbkjoojfpmokaaaMRangeOwn
import Derived.Test.YtbkjoojfpmokaaaMDem
import Derived.Test.YtbkjoojfpmokaaaMDead
import Derived.Test.YtbkjoojfpmokaaaMDead2
import Derived.Test.YtbkjoojfpmokaaaMEdf2

namespace Go.Proofs.Ytbkjoojfpmokaaa.Pure
open Go.RowKit Go.Proofs.Ytbkjoojfpmokaaa.PEdfPlays Go.Proofs.YtbkjoojfpmokaaaW.PrintWords Go.Proofs.YtbkjoojfpmokaaaW.PrintLast Go.Proofs.YtbkjoojfpmokaaaW.PrintMore
set_option linter.unusedVariables false
set_option linter.unusedSimpArgs false


theorem EdfPlays : horariumlaw18_EdfPlays.Pure := by
  unfold horariumlaw18_EdfPlays.Pure
  intros
  rfl
end Go.Proofs.Ytbkjoojfpmokaaa.Pure
