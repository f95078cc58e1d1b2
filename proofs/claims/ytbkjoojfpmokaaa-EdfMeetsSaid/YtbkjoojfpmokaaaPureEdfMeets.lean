/- EdfMeets, the plain part: all of it is said by the walk. -/
import Derived.Test.YtbkjoojfpmokaaaPEdfMeetsx5
import Derived.Test.YtbkjoojfpmokaaaMHeapT
import Derived.Test.YtbkjoojfpmokaaaMHeapG
import Derived.Test.YtbkjoojfpmokaaaMRangeX
import Derived.Test.YtbkjoojfpmokaaaMRangeXA
import Derived.Test.YtbkjoojfpmokaaaMRangeOwn
import Derived.Test.YtbkjoojfpmokaaaMDem
import Derived.Test.YtbkjoojfpmokaaaMDead
import Derived.Test.YtbkjoojfpmokaaaMDead2
import Derived.Test.YtbkjoojfpmokaaaMEdf2
import Derived.Test.YtbkjoojfpmokaaaMLcm
import Derived.Test.YtbkjoojfpmokaaaMWork
import Derived.Test.YtbkjoojfpmokaaaMBusy
import Derived.Test.YtbkjoojfpmokaaaMQpa
import Derived.Test.YtbkjoojfpmokaaaMFits

namespace Go.Proofs.Ytbkjoojfpmokaaa.Pure
open Go.RowKit Go.Proofs.Ytbkjoojfpmokaaa.PEdfMeets Go.Proofs.YtbkjoojfpmokaaaW.PrintWords Go.Proofs.YtbkjoojfpmokaaaW.PrintLast Go.Proofs.YtbkjoojfpmokaaaW.PrintMore
set_option linter.unusedVariables false
set_option linter.unusedSimpArgs false


theorem EdfMeets : horariumlaw18_EdfMeets.Pure := by
  unfold horariumlaw18_EdfMeets.Pure
  intros
  rfl
end Go.Proofs.Ytbkjoojfpmokaaa.Pure
