-- Made by px.py (a program of this session, over the kit's printer) out of the translation. Not trusted: Lean checks it.
import Derived.Test.YthkagoomlmgcdaaPJudgeFitsx0
import Derived.Test.YthkagoomlmgcdaaPJudgeFitsx14
namespace Go.Proofs.Ythkagoomlmgcdaa.PJudgeFits
open Go.RowKit Go.Proofs.YthkagoomlmgcdaaW.PrintWords Go.Proofs.YthkagoomlmgcdaaW.PrintLast Go.Proofs.YthkagoomlmgcdaaW.PrintMore
attribute [local go_sem] max2_int min2_int max_two min_two max_three min_three max_four min_four   -- for this text's walks alone
set_option linter.unusedVariables false
set_option linter.unusedSimpArgs false

def WF52 (x : S52) : Prop := (Lit.int .i64 x.f0).wf = true ∧ (Lit.int .i64 x.f1).wf = true ∧ (Lit.int .i64 x.f2).wf = true ∧ (Lit.int .i64 x.f3).wf = true ∧ (Lit.int .i64 x.f4).wf = true ∧ (Lit.int .i64 x.f5).wf = true
set_option maxRecDepth 100000 in
theorem openk52 {H : Type} {enc : TypeId × Value → H} {W : World} {base : Nat} {spare : Nat → Bool} {held : Bool} {m : Nat} {cs : List Value} {x : DataW H × List MemPlace} (h : DataW.trod enc Try.prog W base spare held m 52 cs = some x) : ∃ y : S52, cs = [.int .i64 y.f0, .int .i64 y.f1, .int .i64 y.f2, .int .i64 y.f3, .int .i64 y.f4, .int .i64 y.f5, .bool y.f6] ∧ WF52 y := by
 obtain ⟨xs, n, _, _, hl, hx, hf⟩ := DataW.trod_struct Try.underlying52 h
 rw [show Try.prog.cellsOf 52 = 7 from by kernel_rfl] at hl
 obtain ⟨c0, c1, c2, c3, c4, c5, c6, rfl⟩ : ∃ c0 c1 c2 c3 c4 c5 c6, cs = [c0, c1, c2, c3, c4, c5, c6] := by clear h hf; match cs, hl with | [c0, c1, c2, c3, c4, c5, c6], _ => exact ⟨c0, c1, c2, c3, c4, c5, c6, rfl⟩
 obtain ⟨y0, y1, y2, y3, y4, y5, y6, rfl⟩ : ∃ y0 y1 y2 y3 y4 y5 y6, xs = [y0, y1, y2, y3, y4, y5, y6] := by clear hf; match xs, hx with | [y0, y1, y2, y3, y4, y5, y6], _ => exact ⟨y0, y1, y2, y3, y4, y5, y6, rfl⟩
 have g0 : DataW.trod enc Try.prog W base spare held n 3 (List.take (Try.prog.cellsOf 3) (List.drop 0 [c0, c1, c2, c3, c4, c5, c6])) = some y0 := hf 0 _ rfl
 rw [show Try.prog.cellsOf 3 = 1 from by kernel_rfl] at g0
 obtain ⟨v0, q0, _, w0⟩ := DataW.trod_int (cs := [c0]) (x := y0) Try.underlying3 g0
 simp only [List.cons.injEq, and_true] at q0
 subst q0
 have g1 : DataW.trod enc Try.prog W base spare held n 3 (List.take (Try.prog.cellsOf 3) (List.drop 1 [.int .i64 v0, c1, c2, c3, c4, c5, c6])) = some y1 := hf 1 _ rfl
 rw [show Try.prog.cellsOf 3 = 1 from by kernel_rfl] at g1
 obtain ⟨v1, q1, _, w1⟩ := DataW.trod_int (cs := [c1]) (x := y1) Try.underlying3 g1
 simp only [List.cons.injEq, and_true] at q1
 subst q1
 have g2 : DataW.trod enc Try.prog W base spare held n 3 (List.take (Try.prog.cellsOf 3) (List.drop 2 [.int .i64 v0, .int .i64 v1, c2, c3, c4, c5, c6])) = some y2 := hf 2 _ rfl
 rw [show Try.prog.cellsOf 3 = 1 from by kernel_rfl] at g2
 obtain ⟨v2, q2, _, w2⟩ := DataW.trod_int (cs := [c2]) (x := y2) Try.underlying3 g2
 simp only [List.cons.injEq, and_true] at q2
 subst q2
 have g3 : DataW.trod enc Try.prog W base spare held n 3 (List.take (Try.prog.cellsOf 3) (List.drop 3 [.int .i64 v0, .int .i64 v1, .int .i64 v2, c3, c4, c5, c6])) = some y3 := hf 3 _ rfl
 rw [show Try.prog.cellsOf 3 = 1 from by kernel_rfl] at g3
 obtain ⟨v3, q3, _, w3⟩ := DataW.trod_int (cs := [c3]) (x := y3) Try.underlying3 g3
 simp only [List.cons.injEq, and_true] at q3
 subst q3
 have g4 : DataW.trod enc Try.prog W base spare held n 3 (List.take (Try.prog.cellsOf 3) (List.drop 4 [.int .i64 v0, .int .i64 v1, .int .i64 v2, .int .i64 v3, c4, c5, c6])) = some y4 := hf 4 _ rfl
 rw [show Try.prog.cellsOf 3 = 1 from by kernel_rfl] at g4
 obtain ⟨v4, q4, _, w4⟩ := DataW.trod_int (cs := [c4]) (x := y4) Try.underlying3 g4
 simp only [List.cons.injEq, and_true] at q4
 subst q4
 have g5 : DataW.trod enc Try.prog W base spare held n 3 (List.take (Try.prog.cellsOf 3) (List.drop 5 [.int .i64 v0, .int .i64 v1, .int .i64 v2, .int .i64 v3, .int .i64 v4, c5, c6])) = some y5 := hf 5 _ rfl
 rw [show Try.prog.cellsOf 3 = 1 from by kernel_rfl] at g5
 obtain ⟨v5, q5, _, w5⟩ := DataW.trod_int (cs := [c5]) (x := y5) Try.underlying3 g5
 simp only [List.cons.injEq, and_true] at q5
 subst q5
 have g6 : DataW.trod enc Try.prog W base spare held n 4 (List.take (Try.prog.cellsOf 4) (List.drop 6 [.int .i64 v0, .int .i64 v1, .int .i64 v2, .int .i64 v3, .int .i64 v4, .int .i64 v5, c6])) = some y6 := hf 6 _ rfl
 rw [show Try.prog.cellsOf 4 = 1 from by kernel_rfl] at g6
 obtain ⟨v6, q6, _⟩ := DataW.trod_bool (cs := [c6]) (x := y6) Try.underlying4 g6
 simp only [List.cons.injEq, and_true] at q6
 subst q6
 refine ⟨⟨v0, v1, v2, v3, v4, v5, v6⟩, rfl, ?_⟩
 unfold WF52
 exact ⟨w0, w1, w2, w3, w4, w5⟩
theorem addr_add_add (a : Addr) (i j : Nat) : (a.add i).add j = a.add (i + j) := by
 unfold Addr.add
 by_cases hi : i = 0 <;> by_cases hj : j = 0 <;> simp [hi, hj, Nat.add_assoc]
theorem rowsk52 {H : Type} {enc : TypeId × Value → H} {W : World} {base : Nat} {spare : Nat → Bool} {held : Bool} {t : Nat} {a : Option Addr} {len cap : Nat} {d : DataW H} {ps : List MemPlace} (hu : Try.prog.underlying t = some (.slice 52)) (h : DataW.Trod enc Try.prog W base spare held t (.slice a len cap) d ps) : ∃ l : List S52, l.length = len ∧ Kd.C k52 W a l.length l ∧ l.length ≤ cap ∧ ∀ x ∈ l, WF52 x := by
 obtain ⟨fuel, hf⟩ := h
 rcases Go.Deep.open_slice hu hf with ⟨hcs, _⟩ | ⟨x, l, c, m, n, D, Pl, hcs, hb, hl, hm, hmm, _, hel⟩
 ·simp [Value.cells] at hcs
  obtain ⟨rfl, rfl, rfl⟩ := hcs
  exact ⟨[], rfl, Kd.C_nil _ _, Nat.le_refl _, by simp⟩
 ·simp [Value.cells] at hcs
  obtain ⟨rfl, rfl, rfl⟩ := hcs
  have hle : len ≤ m := by rw [hmm]; split <;> omega
  rw [show Try.prog.cellsOf 52 = 7 from by kernel_rfl] at hel
  have hc : ∀ i, i < len → ∃ y : S52, W.cells? base (x.add (i * 7)) 7 = some [.int .i64 y.f0, .int .i64 y.f1, .int .i64 y.f2, .int .i64 y.f3, .int .i64 y.f4, .int .i64 y.f5, .bool y.f6] ∧ WF52 y := by
   intro i hi
   obtain ⟨cs', h1, h2⟩ := hel i (by omega)
   obtain ⟨y, rfl, wy⟩ := openk52 h2
   exact ⟨y, h1, wy⟩
  haveI : Inhabited S52 := ⟨z52⟩
  obtain ⟨Y, hY⟩ := Go.Deep.choose_lt hc
  have hlen : ((List.range len).map Y).length = len := by simp
  refine ⟨(List.range len).map Y, hlen, ⟨rfl, by unfold maxLen at hm; omega, fun _ => ⟨x, rfl, fun j p hj => ?_⟩⟩, by omega, ?_⟩
  ·obtain ⟨hj1, hj2⟩ := List.getElem?_eq_some_iff.1 hj
   have hj3 : j < len := by omega
   have hp : p = Y j := by rw [← hj2]; simp
   subst hp
   obtain ⟨h1, _⟩ := hY j hj3
   obtain ⟨_, _, h2⟩ := World.cells?_some h1
   refine ⟨[.int .i64 (Y j).f0, .int .i64 (Y j).f1, .int .i64 (Y j).f2, .int .i64 (Y j).f3, .int .i64 (Y j).f4, .int .i64 (Y j).f5, .bool (Y j).f6], rfl, k52_mk _ _, fun i u hu => ?_⟩
   have hi : i < 7 := (List.getElem?_eq_some_iff.1 hu).1
   have h3 := h2 i hi
   rw [hu, addr_add_add] at h3
   exact h3
  ·intro y hy
   obtain ⟨i, hi, rfl⟩ := List.mem_map.1 hy
   exact (hY i (by simpa using hi)).2
theorem sizedk52 {H : Type} {enc : TypeId × Value → H} {W : World} {base : Nat} {spare : Nat → Bool} {held : Bool} {t : Nat} {a : Option Addr} {len cap : Nat} {d : DataW H} {ps : List MemPlace} {ts : List TypeId} {ds : List (DataW H)} {j : Nat}
  (hsz : (DataW.weightsEach Try.prog ts ds).all (· ≤ reachBytes) = true) (ht : ts[j]? = some t) (hd : ds[j]? = some d) (hu : Try.prog.underlying t = some (.slice 52)) (h : DataW.Trod enc Try.prog W base spare held t (.slice a len cap) d ps) : len * 56 ≤ 140737488351232 := by
 obtain ⟨fuel, hf⟩ := h
 rcases Go.Deep.open_slice hu hf with ⟨hcs, _⟩ | ⟨x, l, c, m, n, D, Pl, hcs, hb, hl, hm, hmm, hx, hel⟩
 ·simp [Value.cells] at hcs
  obtain ⟨rfl, rfl, rfl⟩ := hcs
  simp
 ·simp [Value.cells] at hcs
  obtain ⟨rfl, rfl, rfl⟩ := hcs
  obtain ⟨rfl, _⟩ := Prod.mk.inj hx
  have z := sized_slice hsz ht hd hu
  rw [show Try.prog.bytesOf 52 = 56 from by kernel_rfl, List.length_map, List.length_range] at z
  exact Nat.le_trans (Nat.mul_le_mul_right _ (Nat.le_add_right _ _)) z
/-- THE ONE PURE STATEMENT of w15_JudgeFits. -/
def w15_JudgeFits.Pure : Prop := ∀ (l0 : List (S52)), l0.length * 56 ≤ 140737488351232 → (∀ x ∈ l0, WF52 x) → ∃ k, w15_JudgeFits.f k l0 = some true
theorem w15_JudgeFits.walk (P : w15_JudgeFits.Pure) (A0 : Option Addr) (c0 : Nat) (l0 : List (S52)) (w : World) (hr0 : Kd.C k52 w A0 l0.length l0) (hc0 : l0.length ≤ c0) (y0 : l0.length * 56 ≤ 140737488351232) (w0 : (∀ x ∈ l0, WF52 x)) :
  Calls Try.prog 7 #[.slice A0 l0.length c0] w fun e w' => e = .returned (.bool true) ∧ Below w.heap.size w w' := by
 obtain ⟨k, h⟩ := P l0 y0 w0
 refine (w15_JudgeFits.calls k A0 c0 l0 true w hr0 hc0 h rfl).mono ?_
 rintro e w' ⟨rfl, hd⟩
 exact ⟨rfl, hd⟩

end Go.Proofs.Ythkagoomlmgcdaa.PJudgeFits
