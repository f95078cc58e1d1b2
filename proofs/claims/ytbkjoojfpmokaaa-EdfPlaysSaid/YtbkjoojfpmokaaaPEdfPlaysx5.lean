-- Made by px.py (a program of this session, over the kit's printer) out of the translation. Not trusted: Lean checks it.
import Derived.Test.YtbkjoojfpmokaaaPEdfPlaysx0
import Derived.Test.YtbkjoojfpmokaaaPEdfPlaysx4
namespace Go.Proofs.Ytbkjoojfpmokaaa.PEdfPlays
open Go.RowKit Go.Proofs.YtbkjoojfpmokaaaW.PrintWords Go.Proofs.YtbkjoojfpmokaaaW.PrintLast Go.Proofs.YtbkjoojfpmokaaaW.PrintMore
attribute [local go_sem] max2_int min2_int max_two min_two max_three min_three max_four min_four   -- for this text's walks alone
set_option linter.unusedVariables false
set_option linter.unusedSimpArgs false

def WF65 (x : S65) : Prop := (Lit.int .i64 x.f0).wf = true ∧ (Lit.int .i64 x.f1).wf = true ∧ (Lit.int .i64 x.f2).wf = true ∧ (Lit.int .i64 x.f3).wf = true
set_option maxRecDepth 100000 in
theorem openk65 {H : Type} {enc : TypeId × Value → H} {W : World} {base : Nat} {spare : Nat → Bool} {held : Bool} {m : Nat} {cs : List Value} {x : DataW H × List MemPlace} (h : DataW.trod enc Try.prog W base spare held m 65 cs = some x) : ∃ y : S65, cs = [.int .i64 y.f0, .int .i64 y.f1, .int .i64 y.f2, .int .i64 y.f3] ∧ WF65 y := by
  obtain ⟨xs, n, _, _, hl, hx, hf⟩ := DataW.trod_struct Try.underlying65 h
  rw [show Try.prog.cellsOf 65 = 4 from by kernel_rfl] at hl
  obtain ⟨c0, c1, c2, c3, rfl⟩ : ∃ c0 c1 c2 c3, cs = [c0, c1, c2, c3] := by clear h hf; match cs, hl with | [c0, c1, c2, c3], _ => exact ⟨c0, c1, c2, c3, rfl⟩
  obtain ⟨y0, y1, y2, y3, rfl⟩ : ∃ y0 y1 y2 y3, xs = [y0, y1, y2, y3] := by clear hf; match xs, hx with | [y0, y1, y2, y3], _ => exact ⟨y0, y1, y2, y3, rfl⟩
  have g0 : DataW.trod enc Try.prog W base spare held n 3 (List.take (Try.prog.cellsOf 3) (List.drop 0 [c0, c1, c2, c3])) = some y0 := hf 0 _ rfl
  rw [show Try.prog.cellsOf 3 = 1 from by kernel_rfl] at g0
  obtain ⟨v0, q0, _, w0⟩ := DataW.trod_int (cs := [c0]) (x := y0) Try.underlying3 g0
  simp only [List.cons.injEq, and_true] at q0
  subst q0
  have g1 : DataW.trod enc Try.prog W base spare held n 2 (List.take (Try.prog.cellsOf 2) (List.drop 1 [.int .i64 v0, c1, c2, c3])) = some y1 := hf 1 _ rfl
  rw [show Try.prog.cellsOf 2 = 1 from by kernel_rfl] at g1
  obtain ⟨v1, q1, _, w1⟩ := DataW.trod_int (cs := [c1]) (x := y1) Try.underlying2 g1
  simp only [List.cons.injEq, and_true] at q1
  subst q1
  have g2 : DataW.trod enc Try.prog W base spare held n 2 (List.take (Try.prog.cellsOf 2) (List.drop 2 [.int .i64 v0, .int .i64 v1, c2, c3])) = some y2 := hf 2 _ rfl
  rw [show Try.prog.cellsOf 2 = 1 from by kernel_rfl] at g2
  obtain ⟨v2, q2, _, w2⟩ := DataW.trod_int (cs := [c2]) (x := y2) Try.underlying2 g2
  simp only [List.cons.injEq, and_true] at q2
  subst q2
  have g3 : DataW.trod enc Try.prog W base spare held n 2 (List.take (Try.prog.cellsOf 2) (List.drop 3 [.int .i64 v0, .int .i64 v1, .int .i64 v2, c3])) = some y3 := hf 3 _ rfl
  rw [show Try.prog.cellsOf 2 = 1 from by kernel_rfl] at g3
  obtain ⟨v3, q3, _, w3⟩ := DataW.trod_int (cs := [c3]) (x := y3) Try.underlying2 g3
  simp only [List.cons.injEq, and_true] at q3
  subst q3
  refine ⟨⟨v0, v1, v2, v3⟩, rfl, ?_⟩
  unfold WF65
  exact ⟨w0, w1, w2, w3⟩
def WF67 (x : S67) : Prop := (Lit.int .i64 x.f0).wf = true ∧ (Lit.int .i64 x.f1.f0).wf = true ∧ (Lit.int .i64 x.f1.f1).wf = true ∧ (Lit.int .i64 x.f1.f2).wf = true ∧ (Lit.int .i64 x.f1.f3).wf = true
set_option maxRecDepth 100000 in
theorem openk67 {H : Type} {enc : TypeId × Value → H} {W : World} {base : Nat} {spare : Nat → Bool} {held : Bool} {m : Nat} {cs : List Value} {x : DataW H × List MemPlace} (h : DataW.trod enc Try.prog W base spare held m 67 cs = some x) : ∃ y : S67, cs = [.int .i64 y.f0, .int .i64 y.f1.f0, .int .i64 y.f1.f1, .int .i64 y.f1.f2, .int .i64 y.f1.f3, .bool y.f2, .bool y.f3] ∧ WF67 y := by
  obtain ⟨xs, n, _, _, hl, hx, hf⟩ := DataW.trod_struct Try.underlying67 h
  rw [show Try.prog.cellsOf 67 = 7 from by kernel_rfl] at hl
  obtain ⟨c0, c1, c2, c3, c4, c5, c6, rfl⟩ : ∃ c0 c1 c2 c3 c4 c5 c6, cs = [c0, c1, c2, c3, c4, c5, c6] := by clear h hf; match cs, hl with | [c0, c1, c2, c3, c4, c5, c6], _ => exact ⟨c0, c1, c2, c3, c4, c5, c6, rfl⟩
  obtain ⟨y0, y1, y2, y3, rfl⟩ : ∃ y0 y1 y2 y3, xs = [y0, y1, y2, y3] := by clear hf; match xs, hx with | [y0, y1, y2, y3], _ => exact ⟨y0, y1, y2, y3, rfl⟩
  have g0 : DataW.trod enc Try.prog W base spare held n 3 (List.take (Try.prog.cellsOf 3) (List.drop 0 [c0, c1, c2, c3, c4, c5, c6])) = some y0 := hf 0 _ rfl
  rw [show Try.prog.cellsOf 3 = 1 from by kernel_rfl] at g0
  obtain ⟨v0, q0, _, w0⟩ := DataW.trod_int (cs := [c0]) (x := y0) Try.underlying3 g0
  simp only [List.cons.injEq, and_true] at q0
  subst q0
  have g1 : DataW.trod enc Try.prog W base spare held n 65 (List.take (Try.prog.cellsOf 65) (List.drop 1 [.int .i64 v0, c1, c2, c3, c4, c5, c6])) = some y1 := hf 1 _ rfl
  rw [show Try.prog.cellsOf 65 = 4 from by kernel_rfl] at g1
  obtain ⟨v1, q1, w1⟩ := openk65 (cs := [c1, c2, c3, c4]) (x := y1) g1
  simp only [List.cons.injEq, and_true] at q1
  obtain ⟨rfl, rfl, rfl, rfl⟩ := q1
  have g2 : DataW.trod enc Try.prog W base spare held n 4 (List.take (Try.prog.cellsOf 4) (List.drop 5 [.int .i64 v0, .int .i64 v1.f0, .int .i64 v1.f1, .int .i64 v1.f2, .int .i64 v1.f3, c5, c6])) = some y2 := hf 2 _ rfl
  rw [show Try.prog.cellsOf 4 = 1 from by kernel_rfl] at g2
  obtain ⟨v2, q2, _⟩ := DataW.trod_bool (cs := [c5]) (x := y2) Try.underlying4 g2
  simp only [List.cons.injEq, and_true] at q2
  subst q2
  have g3 : DataW.trod enc Try.prog W base spare held n 4 (List.take (Try.prog.cellsOf 4) (List.drop 6 [.int .i64 v0, .int .i64 v1.f0, .int .i64 v1.f1, .int .i64 v1.f2, .int .i64 v1.f3, .bool v2, c6])) = some y3 := hf 3 _ rfl
  rw [show Try.prog.cellsOf 4 = 1 from by kernel_rfl] at g3
  obtain ⟨v3, q3, _⟩ := DataW.trod_bool (cs := [c6]) (x := y3) Try.underlying4 g3
  simp only [List.cons.injEq, and_true] at q3
  subst q3
  refine ⟨⟨v0, v1, v2, v3⟩, rfl, ?_⟩
  unfold WF67
  unfold WF65 at *
  simp_all
theorem addr_add_add (a : Addr) (i j : Nat) : (a.add i).add j = a.add (i + j) := by
  unfold Addr.add
  by_cases hi : i = 0 <;> by_cases hj : j = 0 <;> simp [hi, hj, Nat.add_assoc]
theorem rowsk67 {H : Type} {enc : TypeId × Value → H} {W : World} {base : Nat} {spare : Nat → Bool} {held : Bool} {t : Nat} {a : Option Addr} {len cap : Nat} {d : DataW H} {ps : List MemPlace} (hu : Try.prog.underlying t = some (.slice 67)) (h : DataW.Trod enc Try.prog W base spare held t (.slice a len cap) d ps) : ∃ l : List S67, l.length = len ∧ Kd.C k67 W a l.length l ∧ l.length ≤ cap ∧ ∀ x ∈ l, WF67 x := by
  obtain ⟨fuel, hf⟩ := h
  rcases Go.Deep.open_slice hu hf with ⟨hcs, _⟩ | ⟨x, l, c, m, n, D, Pl, hcs, hb, hl, hm, hmm, _, hel⟩
  · simp [Value.cells] at hcs
    obtain ⟨rfl, rfl, rfl⟩ := hcs
    exact ⟨[], rfl, Kd.C_nil _ _, Nat.le_refl _, by simp⟩
  · simp [Value.cells] at hcs
    obtain ⟨rfl, rfl, rfl⟩ := hcs
    have hle : len ≤ m := by rw [hmm]; split <;> omega
    rw [show Try.prog.cellsOf 67 = 7 from by kernel_rfl] at hel
    have hc : ∀ i, i < len → ∃ y : S67, W.cells? base (x.add (i * 7)) 7 = some [.int .i64 y.f0, .int .i64 y.f1.f0, .int .i64 y.f1.f1, .int .i64 y.f1.f2, .int .i64 y.f1.f3, .bool y.f2, .bool y.f3] ∧ WF67 y := by
      intro i hi
      obtain ⟨cs', h1, h2⟩ := hel i (by omega)
      obtain ⟨y, rfl, wy⟩ := openk67 h2
      exact ⟨y, h1, wy⟩
    haveI : Inhabited S67 := ⟨z67⟩
    obtain ⟨Y, hY⟩ := Go.Deep.choose_lt hc
    have hlen : ((List.range len).map Y).length = len := by simp
    refine ⟨(List.range len).map Y, hlen, ⟨rfl, by unfold maxLen at hm; omega, fun _ => ⟨x, rfl, fun j p hj => ?_⟩⟩, by omega, ?_⟩
    · obtain ⟨hj1, hj2⟩ := List.getElem?_eq_some_iff.1 hj
      have hj3 : j < len := by omega
      have hp : p = Y j := by rw [← hj2]; simp
      subst hp
      obtain ⟨h1, _⟩ := hY j hj3
      obtain ⟨_, _, h2⟩ := World.cells?_some h1
      refine ⟨[.int .i64 (Y j).f0, .int .i64 (Y j).f1.f0, .int .i64 (Y j).f1.f1, .int .i64 (Y j).f1.f2, .int .i64 (Y j).f1.f3, .bool (Y j).f2, .bool (Y j).f3], rfl, k67_mk _ _, fun i u hu => ?_⟩
      have hi : i < 7 := (List.getElem?_eq_some_iff.1 hu).1
      have h3 := h2 i hi
      rw [hu, addr_add_add] at h3
      exact h3
    · intro y hy
      obtain ⟨i, hi, rfl⟩ := List.mem_map.1 hy
      exact (hY i (by simpa using hi)).2
theorem sizedk67 {H : Type} {enc : TypeId × Value → H} {W : World} {base : Nat} {spare : Nat → Bool} {held : Bool} {t : Nat} {a : Option Addr} {len cap : Nat} {d : DataW H} {ps : List MemPlace} {ts : List TypeId} {ds : List (DataW H)} {j : Nat}
    (hsz : (DataW.weightsEach Try.prog ts ds).all (· ≤ reachBytes) = true) (ht : ts[j]? = some t) (hd : ds[j]? = some d) (hu : Try.prog.underlying t = some (.slice 67)) (h : DataW.Trod enc Try.prog W base spare held t (.slice a len cap) d ps) : len * 48 ≤ 140737488351232 := by
  obtain ⟨fuel, hf⟩ := h
  rcases Go.Deep.open_slice hu hf with ⟨hcs, _⟩ | ⟨x, l, c, m, n, D, Pl, hcs, hb, hl, hm, hmm, hx, hel⟩
  · simp [Value.cells] at hcs
    obtain ⟨rfl, rfl, rfl⟩ := hcs
    simp
  · simp [Value.cells] at hcs
    obtain ⟨rfl, rfl, rfl⟩ := hcs
    obtain ⟨rfl, _⟩ := Prod.mk.inj hx
    have z := sized_slice hsz ht hd hu
    rw [show Try.prog.bytesOf 67 = 48 from by kernel_rfl, List.length_map, List.length_range] at z
    exact Nat.le_trans (Nat.mul_le_mul_right _ (Nat.le_add_right _ _)) z
/-- THE ONE PURE STATEMENT of horariumlaw18_EdfPlays. -/
def horariumlaw18_EdfPlays.Pure : Prop := ∀ (l0 : List (S67)) (a1 : Int), l0.length * 48 ≤ 140737488351232 → (∀ x ∈ l0, WF67 x) → (Lit.int .i64 a1).wf = true → horariumlaw18_EdfPlays.f l0 a1 = some true
theorem horariumlaw18_EdfPlays.walk (P : horariumlaw18_EdfPlays.Pure) (A0 : Option Addr) (c0 : Nat) (l0 : List (S67)) (a1 : Int) (w : World) (hr0 : Kd.C k67 w A0 l0.length l0) (hc0 : l0.length ≤ c0) (y0 : l0.length * 48 ≤ 140737488351232) (w0 : (∀ x ∈ l0, WF67 x)) (w1 : (Lit.int .i64 a1).wf = true) :
    Calls Try.prog 17 #[.slice A0 l0.length c0, .int .i64 a1] w fun e w' => e = .returned (.bool true) ∧ Below w.heap.size w w' := by
  have h := P l0 a1 y0 w0 w1
  refine (horariumlaw18_EdfPlays.calls A0 c0 l0 a1 true w hr0 hc0 h).mono ?_
  rintro e w' ⟨rfl, hd⟩
  exact ⟨rfl, hd⟩

end Go.Proofs.Ytbkjoojfpmokaaa.PEdfPlays
