-- Made by px.py (a program of this session, over the kit's printer) out of the translation. Not trusted: Lean checks it.
import Derived.Test.YtbkjoojfpmokaaaPWideBackx0
import Derived.Test.YtbkjoojfpmokaaaPWideBackx5
namespace Go.Proofs.Ytbkjoojfpmokaaa.PWideBack
open Go.RowKit Go.Proofs.YtbkjoojfpmokaaaW.PrintWords Go.Proofs.YtbkjoojfpmokaaaW.PrintLast Go.Proofs.YtbkjoojfpmokaaaW.PrintMore
attribute [local go_sem] max2_int min2_int max_two min_two max_three min_three max_four min_four   -- for this text's walks alone
set_option linter.unusedVariables false
set_option linter.unusedSimpArgs false

def WF44 (x : S44) : Prop := (Lit.int .u64 x.f0).wf = true ∧ (Lit.int .u64 x.f1).wf = true
set_option maxRecDepth 100000 in
theorem openk44 {H : Type} {enc : TypeId × Value → H} {W : World} {base : Nat} {spare : Nat → Bool} {held : Bool} {m : Nat} {cs : List Value} {x : DataW H × List MemPlace} (h : DataW.trod enc Try.prog W base spare held m 44 cs = some x) : ∃ y : S44, cs = [.int .u64 y.f0, .int .u64 y.f1] ∧ WF44 y := by
  obtain ⟨xs, n, _, _, hl, hx, hf⟩ := DataW.trod_struct Try.underlying44 h
  rw [show Try.prog.cellsOf 44 = 2 from by kernel_rfl] at hl
  obtain ⟨c0, c1, rfl⟩ : ∃ c0 c1, cs = [c0, c1] := by clear h hf; match cs, hl with | [c0, c1], _ => exact ⟨c0, c1, rfl⟩
  obtain ⟨y0, y1, rfl⟩ : ∃ y0 y1, xs = [y0, y1] := by clear hf; match xs, hx with | [y0, y1], _ => exact ⟨y0, y1, rfl⟩
  have g0 : DataW.trod enc Try.prog W base spare held n 42 (List.take (Try.prog.cellsOf 42) (List.drop 0 [c0, c1])) = some y0 := hf 0 _ rfl
  rw [show Try.prog.cellsOf 42 = 1 from by kernel_rfl] at g0
  obtain ⟨v0, q0, _, w0⟩ := DataW.trod_int (cs := [c0]) (x := y0) Try.underlying42 g0
  simp only [List.cons.injEq, and_true] at q0
  subst q0
  have g1 : DataW.trod enc Try.prog W base spare held n 42 (List.take (Try.prog.cellsOf 42) (List.drop 1 [.int .u64 v0, c1])) = some y1 := hf 1 _ rfl
  rw [show Try.prog.cellsOf 42 = 1 from by kernel_rfl] at g1
  obtain ⟨v1, q1, _, w1⟩ := DataW.trod_int (cs := [c1]) (x := y1) Try.underlying42 g1
  simp only [List.cons.injEq, and_true] at q1
  subst q1
  refine ⟨⟨v0, v1⟩, rfl, ?_⟩
  unfold WF44
  exact ⟨w0, w1⟩
def WF92 (x : S92) : Prop := (Lit.int .u64 x.f0).wf = true ∧ (Lit.int .u64 x.f1).wf = true ∧ (Lit.int .u64 x.f2).wf = true
set_option maxRecDepth 100000 in
theorem openk92 {H : Type} {enc : TypeId × Value → H} {W : World} {base : Nat} {spare : Nat → Bool} {held : Bool} {m : Nat} {cs : List Value} {x : DataW H × List MemPlace} (h : DataW.trod enc Try.prog W base spare held m 92 cs = some x) : ∃ y : S92, cs = [.int .u64 y.f0, .int .u64 y.f1, .int .u64 y.f2] ∧ WF92 y := by
  obtain ⟨xs, n, _, _, hl, hx, hf⟩ := DataW.trod_array Try.underlying92 h
  rw [show Try.prog.cellsOf 92 = 3 from by kernel_rfl] at hl
  obtain ⟨c0, c1, c2, rfl⟩ : ∃ c0 c1 c2, cs = [c0, c1, c2] := by clear h hf; match cs, hl with | [c0, c1, c2], _ => exact ⟨c0, c1, c2, rfl⟩
  obtain ⟨y0, y1, y2, rfl⟩ : ∃ y0 y1 y2, xs = [y0, y1, y2] := by clear hf; match xs, hx with | [y0, y1, y2], _ => exact ⟨y0, y1, y2, rfl⟩
  have g0 := hf 0 (by omega)
  rw [show Try.prog.cellsOf 42 = 1 from by kernel_rfl] at g0
  obtain ⟨v0, q0, _, w0⟩ := DataW.trod_int (cs := [c0]) (x := y0) Try.underlying42 g0
  simp only [List.cons.injEq, and_true] at q0
  subst q0
  have g1 := hf 1 (by omega)
  rw [show Try.prog.cellsOf 42 = 1 from by kernel_rfl] at g1
  obtain ⟨v1, q1, _, w1⟩ := DataW.trod_int (cs := [c1]) (x := y1) Try.underlying42 g1
  simp only [List.cons.injEq, and_true] at q1
  subst q1
  have g2 := hf 2 (by omega)
  rw [show Try.prog.cellsOf 42 = 1 from by kernel_rfl] at g2
  obtain ⟨v2, q2, _, w2⟩ := DataW.trod_int (cs := [c2]) (x := y2) Try.underlying42 g2
  simp only [List.cons.injEq, and_true] at q2
  subst q2
  refine ⟨⟨v0, v1, v2⟩, rfl, ?_⟩
  unfold WF92
  exact ⟨w0, w1, w2⟩
/-- THE ONE PURE STATEMENT of horariumlaw01_WideBack. -/
def horariumlaw01_WideBack.Pure : Prop := ∀ (a0_0 : Int) (a0_1 : Int) (a1_0 : Int) (a1_1 : Int) (a2_0 : Int) (a2_1 : Int) (a2_2 : Int), (Lit.int .u64 a0_0).wf = true → (Lit.int .u64 a0_1).wf = true → (Lit.int .u64 a1_0).wf = true → (Lit.int .u64 a1_1).wf = true → (Lit.int .u64 a2_0).wf = true → (Lit.int .u64 a2_1).wf = true → (Lit.int .u64 a2_2).wf = true → ∃ k, horariumlaw01_WideBack.f k a0_0 a0_1 a1_0 a1_1 a2_0 a2_1 a2_2 = some true
theorem horariumlaw01_WideBack.walk (P : horariumlaw01_WideBack.Pure) (a0_0 : Int) (a0_1 : Int) (a1_0 : Int) (a1_1 : Int) (a2_0 : Int) (a2_1 : Int) (a2_2 : Int) (w : World) (w0_0 : (Lit.int .u64 a0_0).wf = true) (w0_1 : (Lit.int .u64 a0_1).wf = true) (w1_0 : (Lit.int .u64 a1_0).wf = true) (w1_1 : (Lit.int .u64 a1_1).wf = true) (w2_0 : (Lit.int .u64 a2_0).wf = true) (w2_1 : (Lit.int .u64 a2_1).wf = true) (w2_2 : (Lit.int .u64 a2_2).wf = true) :
    Calls Try.prog 16 #[.agg #[.int .u64 a0_0, .int .u64 a0_1], .agg #[.int .u64 a1_0, .int .u64 a1_1], .agg #[.int .u64 a2_0, .int .u64 a2_1, .int .u64 a2_2]] w fun e w' => e = .returned (.bool true) ∧ Below w.heap.size w w' := by
  obtain ⟨k, h⟩ := P a0_0 a0_1 a1_0 a1_1 a2_0 a2_1 a2_2 w0_0 w0_1 w1_0 w1_1 w2_0 w2_1 w2_2
  refine (horariumlaw01_WideBack.calls k a0_0 a0_1 a1_0 a1_1 a2_0 a2_1 a2_2 true w  h rfl).mono ?_
  rintro e w' ⟨rfl, hd⟩
  exact ⟨rfl, hd⟩

end Go.Proofs.Ytbkjoojfpmokaaa.PWideBack
