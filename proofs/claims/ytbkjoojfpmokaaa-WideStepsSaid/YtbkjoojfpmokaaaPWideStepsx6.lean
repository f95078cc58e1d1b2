-- Made by px.py (a program of this session, over the kit's printer) out of the translation. Not trusted: Lean checks it.
import Derived.Test.YtbkjoojfpmokaaaPWideStepsx0
import Derived.Test.YtbkjoojfpmokaaaPWideStepsx5
namespace Go.Proofs.Ytbkjoojfpmokaaa.PWideSteps
open Go.RowKit Go.Proofs.YtbkjoojfpmokaaaW.PrintWords Go.Proofs.YtbkjoojfpmokaaaW.PrintLast Go.Proofs.YtbkjoojfpmokaaaW.PrintMore
attribute [local go_sem] max2_int min2_int max_two min_two max_three min_three max_four min_four   -- for this text's walks alone
set_option linter.unusedVariables false
set_option linter.unusedSimpArgs false

def WF44 (x : S44) : Prop := (Lit.int .u64 x.f0).wf = true ∧ (Lit.int .u64 x.f1).wf = true
theorem openk44 {H : Type} {enc : TypeId × Value → H} {W : World} {base : Nat} {spare : Nat → Bool} {held : Bool} {m : Nat} {cs : List Value} {x : DataW H × List MemPlace} (h : DataW.trod enc Try.prog W base spare held m 44 cs = some x) : ∃ y : S44, cs = [.int .u64 y.f0, .int .u64 y.f1] ∧ WF44 y := by
  obtain ⟨xs, n, _, _, hl, hx, hf⟩ := DataW.trod_struct Try.underlying44 h
  rw [show Try.prog.cellsOf 44 = 2 from by kernel_rfl] at hl
  obtain ⟨c0, c1, rfl⟩ : ∃ c0 c1, cs = [c0, c1] := by clear h hf; match cs, hl with | [c0, c1], _ => exact ⟨c0, c1, rfl⟩
  obtain ⟨y0, y1, rfl⟩ : ∃ y0 y1, xs = [y0, y1] := by clear hf; match xs, hx with | [y0, y1], _ => exact ⟨y0, y1, rfl⟩
  have g0 : DataW.trod enc Try.prog W base spare held n 42 (List.take (Try.prog.cellsOf 42) (List.drop 0 [c0, c1])) = some y0 := hf 0 _ rfl
  rw [show Try.prog.cellsOf 42 = 1 from by kernel_rfl] at g0
  obtain ⟨v0, q0, _, w0⟩ := DataW.trod_int (cs := [c0]) (x := y0) Try.underlying42 g0
  simp only [List.cons.injEq, and_true] at q0
  subst q0
  have g1 : DataW.trod enc Try.prog W base spare held n 42 (List.take (Try.prog.cellsOf 42) (List.drop 1 [.int .u64 v0, c1])) = some y1 := hf 1 _ rfl
  rw [show Try.prog.cellsOf 42 = 1 from by kernel_rfl] at g1
  obtain ⟨v1, q1, _, w1⟩ := DataW.trod_int (cs := [c1]) (x := y1) Try.underlying42 g1
  simp only [List.cons.injEq, and_true] at q1
  subst q1
  refine ⟨⟨v0, v1⟩, rfl, ?_⟩
  unfold WF44
  exact ⟨w0, w1⟩
/-- THE ONE PURE STATEMENT of horariumlaw01_WideSteps. -/
def horariumlaw01_WideSteps.Pure : Prop := ∀ (a0 : Int) (a1 : Int) (a2_0 : Int) (a2_1 : Int), (Lit.int .u64 a0).wf = true → (Lit.int .u64 a1).wf = true → (Lit.int .u64 a2_0).wf = true → (Lit.int .u64 a2_1).wf = true → ∃ k, horariumlaw01_WideSteps.f k a0 a1 a2_0 a2_1 = some true
theorem horariumlaw01_WideSteps.walk (P : horariumlaw01_WideSteps.Pure) (a0 : Int) (a1 : Int) (a2_0 : Int) (a2_1 : Int) (w : World) (w0 : (Lit.int .u64 a0).wf = true) (w1 : (Lit.int .u64 a1).wf = true) (w2_0 : (Lit.int .u64 a2_0).wf = true) (w2_1 : (Lit.int .u64 a2_1).wf = true) :
    Calls Try.prog 12 #[.int .u64 a0, .int .u64 a1, .agg #[.int .u64 a2_0, .int .u64 a2_1]] w fun e w' => e = .returned (.bool true) ∧ Below w.heap.size w w' := by
  obtain ⟨k, h⟩ := P a0 a1 a2_0 a2_1 w0 w1 w2_0 w2_1
  refine (horariumlaw01_WideSteps.calls k a0 a1 a2_0 a2_1 true w  h).mono ?_
  rintro e w' ⟨rfl, hd⟩
  exact ⟨rfl, hd⟩

end Go.Proofs.Ytbkjoojfpmokaaa.PWideSteps
