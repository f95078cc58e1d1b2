-- Made by px.py (a program of this session, over the kit's printer) out of the translation. Not trusted: Lean checks it.
import Derived.Test.YtbkjoojfpmokaaaPWidePartsx0
import Derived.Test.YtbkjoojfpmokaaaPWidePartsx6
namespace Go.Proofs.Ytbkjoojfpmokaaa.PWideParts
open Go.RowKit Go.Proofs.YtbkjoojfpmokaaaW.PrintWords Go.Proofs.YtbkjoojfpmokaaaW.PrintLast Go.Proofs.YtbkjoojfpmokaaaW.PrintMore
attribute [local go_sem] max2_int min2_int max_two min_two max_three min_three max_four min_four   -- for this text's walks alone
set_option linter.unusedVariables false
set_option linter.unusedSimpArgs false

def WF44 (x : S44) : Prop := (Lit.int .u64 x.f0).wf = true ∧ (Lit.int .u64 x.f1).wf = true
set_option maxRecDepth 100000 in
theorem openk44 {H : Type} {enc : TypeId × Value → H} {W : World} {base : Nat} {spare : Nat → Bool} {held : Bool} {m : Nat} {cs : List Value} {x : DataW H × List MemPlace} (h : DataW.trod enc Try.prog W base spare held m 44 cs = some x) : ∃ y : S44, cs = [.int .u64 y.f0, .int .u64 y.f1] ∧ WF44 y := by
  obtain ⟨xs, n, _, _, hl, hx, hf⟩ := DataW.trod_struct Try.underlying44 h
  rw [show Try.prog.cellsOf 44 = 2 from by kernel_rfl] at hl
  obtain ⟨c0, c1, rfl⟩ : ∃ c0 c1, cs = [c0, c1] := by clear h hf; match cs, hl with | [c0, c1], _ => exact ⟨c0, c1, rfl⟩
  obtain ⟨y0, y1, rfl⟩ : ∃ y0 y1, xs = [y0, y1] := by clear hf; match xs, hx with | [y0, y1], _ => exact ⟨y0, y1, rfl⟩
  have g0 : DataW.trod enc Try.prog W base spare held n 42 (List.take (Try.prog.cellsOf 42) (List.drop 0 [c0, c1])) = some y0 := hf 0 _ rfl
  rw [show Try.prog.cellsOf 42 = 1 from by kernel_rfl] at g0
  obtain ⟨v0, q0, _, w0⟩ := DataW.trod_int (cs := [c0]) (x := y0) Try.underlying42 g0
  simp only [List.cons.injEq, and_true] at q0
  subst q0
  have g1 : DataW.trod enc Try.prog W base spare held n 42 (List.take (Try.prog.cellsOf 42) (List.drop 1 [.int .u64 v0, c1])) = some y1 := hf 1 _ rfl
  rw [show Try.prog.cellsOf 42 = 1 from by kernel_rfl] at g1
  obtain ⟨v1, q1, _, w1⟩ := DataW.trod_int (cs := [c1]) (x := y1) Try.underlying42 g1
  simp only [List.cons.injEq, and_true] at q1
  subst q1
  refine ⟨⟨v0, v1⟩, rfl, ?_⟩
  unfold WF44
  exact ⟨w0, w1⟩
def WF45 (x : S45) : Prop := (Lit.int .u64 x.f0).wf = true ∧ (Lit.int .u64 x.f1).wf = true ∧ (Lit.int .u64 x.f2).wf = true ∧ (Lit.int .u64 x.f3).wf = true
set_option maxRecDepth 100000 in
theorem openk45 {H : Type} {enc : TypeId × Value → H} {W : World} {base : Nat} {spare : Nat → Bool} {held : Bool} {m : Nat} {cs : List Value} {x : DataW H × List MemPlace} (h : DataW.trod enc Try.prog W base spare held m 45 cs = some x) : ∃ y : S45, cs = [.int .u64 y.f0, .int .u64 y.f1, .int .u64 y.f2, .int .u64 y.f3] ∧ WF45 y := by
  obtain ⟨xs, n, _, _, hl, hx, hf⟩ := DataW.trod_array Try.underlying45 h
  rw [show Try.prog.cellsOf 45 = 4 from by kernel_rfl] at hl
  obtain ⟨c0, c1, c2, c3, rfl⟩ : ∃ c0 c1 c2 c3, cs = [c0, c1, c2, c3] := by clear h hf; match cs, hl with | [c0, c1, c2, c3], _ => exact ⟨c0, c1, c2, c3, rfl⟩
  obtain ⟨y0, y1, y2, y3, rfl⟩ : ∃ y0 y1 y2 y3, xs = [y0, y1, y2, y3] := by clear hf; match xs, hx with | [y0, y1, y2, y3], _ => exact ⟨y0, y1, y2, y3, rfl⟩
  have g0 := hf 0 (by omega)
  rw [show Try.prog.cellsOf 42 = 1 from by kernel_rfl] at g0
  obtain ⟨v0, q0, _, w0⟩ := DataW.trod_int (cs := [c0]) (x := y0) Try.underlying42 g0
  simp only [List.cons.injEq, and_true] at q0
  subst q0
  have g1 := hf 1 (by omega)
  rw [show Try.prog.cellsOf 42 = 1 from by kernel_rfl] at g1
  obtain ⟨v1, q1, _, w1⟩ := DataW.trod_int (cs := [c1]) (x := y1) Try.underlying42 g1
  simp only [List.cons.injEq, and_true] at q1
  subst q1
  have g2 := hf 2 (by omega)
  rw [show Try.prog.cellsOf 42 = 1 from by kernel_rfl] at g2
  obtain ⟨v2, q2, _, w2⟩ := DataW.trod_int (cs := [c2]) (x := y2) Try.underlying42 g2
  simp only [List.cons.injEq, and_true] at q2
  subst q2
  have g3 := hf 3 (by omega)
  rw [show Try.prog.cellsOf 42 = 1 from by kernel_rfl] at g3
  obtain ⟨v3, q3, _, w3⟩ := DataW.trod_int (cs := [c3]) (x := y3) Try.underlying42 g3
  simp only [List.cons.injEq, and_true] at q3
  subst q3
  refine ⟨⟨v0, v1, v2, v3⟩, rfl, ?_⟩
  unfold WF45
  exact ⟨w0, w1, w2, w3⟩
/-- THE ONE PURE STATEMENT of horariumlaw01_WideParts. -/
def horariumlaw01_WideParts.Pure : Prop := ∀ (a0_0 : Int) (a0_1 : Int) (a1 : Int) (a2_0 : Int) (a2_1 : Int) (a2_2 : Int) (a2_3 : Int), (Lit.int .u64 a0_0).wf = true → (Lit.int .u64 a0_1).wf = true → (Lit.int .u64 a1).wf = true → (Lit.int .u64 a2_0).wf = true → (Lit.int .u64 a2_1).wf = true → (Lit.int .u64 a2_2).wf = true → (Lit.int .u64 a2_3).wf = true → ∃ k, horariumlaw01_WideParts.f k a0_0 a0_1 a1 a2_0 a2_1 a2_2 a2_3 = some true
theorem horariumlaw01_WideParts.walk (P : horariumlaw01_WideParts.Pure) (a0_0 : Int) (a0_1 : Int) (a1 : Int) (a2_0 : Int) (a2_1 : Int) (a2_2 : Int) (a2_3 : Int) (w : World) (w0_0 : (Lit.int .u64 a0_0).wf = true) (w0_1 : (Lit.int .u64 a0_1).wf = true) (w1 : (Lit.int .u64 a1).wf = true) (w2_0 : (Lit.int .u64 a2_0).wf = true) (w2_1 : (Lit.int .u64 a2_1).wf = true) (w2_2 : (Lit.int .u64 a2_2).wf = true) (w2_3 : (Lit.int .u64 a2_3).wf = true) :
    Calls Try.prog 8 #[.agg #[.int .u64 a0_0, .int .u64 a0_1], .int .u64 a1, .agg #[.int .u64 a2_0, .int .u64 a2_1, .int .u64 a2_2, .int .u64 a2_3]] w fun e w' => e = .returned (.bool true) ∧ Below w.heap.size w w' := by
  obtain ⟨k, h⟩ := P a0_0 a0_1 a1 a2_0 a2_1 a2_2 a2_3 w0_0 w0_1 w1 w2_0 w2_1 w2_2 w2_3
  refine (horariumlaw01_WideParts.calls k a0_0 a0_1 a1 a2_0 a2_1 a2_2 a2_3 true w  h rfl).mono ?_
  rintro e w' ⟨rfl, hd⟩
  exact ⟨rfl, hd⟩

end Go.Proofs.Ytbkjoojfpmokaaa.PWideParts
