-- Made by px.py (a program of this session, over the kit's printer) out of the translation. Not trusted: Lean checks it.
import Derived.Test.YtbkjoojfpmokaaaPHeapNilx0
import Derived.Test.YtbkjoojfpmokaaaPHeapNilx1
namespace Go.Proofs.Ytbkjoojfpmokaaa.PHeapNil
open Go.RowKit Go.Proofs.YtbkjoojfpmokaaaW.PrintWords Go.Proofs.YtbkjoojfpmokaaaW.PrintLast Go.Proofs.YtbkjoojfpmokaaaW.PrintMore
attribute [local go_sem] max2_int min2_int max_two min_two max_three min_three max_four min_four   -- for this text's walks alone
set_option linter.unusedVariables false
set_option linter.unusedSimpArgs false

def horariumlaw16_HeapNil.Pure : Prop := ∀ (a0 : Int), (Lit.int .i64 a0).wf = true → horariumlaw16_HeapNil.f a0 = some true
theorem horariumlaw16_HeapNil.walk (P : horariumlaw16_HeapNil.Pure) (a0 : Int) (w : World) (w0 : (Lit.int .i64 a0).wf = true) :
    Calls Try.prog 7 #[.int .i64 a0] w fun e w' => e = .returned (.bool true) ∧ Below w.heap.size w w' := by
  have h := P a0 w0
  refine (horariumlaw16_HeapNil.calls a0 true w h).mono ?_
  rintro e w' ⟨rfl, hd⟩
  exact ⟨rfl, hd⟩

end Go.Proofs.Ytbkjoojfpmokaaa.PHeapNil
