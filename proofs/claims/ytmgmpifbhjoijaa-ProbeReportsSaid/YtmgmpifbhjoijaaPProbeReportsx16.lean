-- Made by px.py (a program of this session, over the kit's printer) out of the translation. Not trusted: Lean checks it.
import Derived.Test.YtmgmpifbhjoijaaPProbeReportsx0
import Derived.Test.YtmgmpifbhjoijaaPProbeReportsx15
namespace Go.Proofs.Ytmgmpifbhjoijaa.PProbeReports
open Go.RowKit Go.Proofs.YtmgmpifbhjoijaaW.PrintWords Go.Proofs.YtmgmpifbhjoijaaW.PrintLast Go.Proofs.YtmgmpifbhjoijaaW.PrintMore
attribute [local go_sem] max2_int min2_int max_two min_two max_three min_three max_four min_four   -- for this text's walks alone
set_option linter.unusedVariables false
set_option linter.unusedSimpArgs false

def WF22 (x : S22) : Prop := (Lit.int .i64 x.f0).wf = true ∧ (Lit.int .i64 x.f1).wf = true ∧ (Lit.int .i64 x.f2).wf = true
set_option maxRecDepth 100000 in
theorem openk22 {H : Type} {enc : TypeId × Value → H} {W : World} {base : Nat} {spare : Nat → Bool} {held : Bool} {m : Nat} {cs : List Value} {x : DataW H × List MemPlace} (h : DataW.trod enc Try.prog W base spare held m 22 cs = some x) : ∃ y : S22, cs = [.int .i64 y.f0, .int .i64 y.f1, .int .i64 y.f2] ∧ WF22 y := by
 obtain ⟨xs, n, _, _, hl, hx, hf⟩ := DataW.trod_array Try.underlying22 h
 rw [show Try.prog.cellsOf 22 = 3 from by kernel_rfl] at hl
 obtain ⟨c0, c1, c2, rfl⟩ : ∃ c0 c1 c2, cs = [c0, c1, c2] := by clear h hf; match cs, hl with | [c0, c1, c2], _ => exact ⟨c0, c1, c2, rfl⟩
 obtain ⟨y0, y1, y2, rfl⟩ : ∃ y0 y1 y2, xs = [y0, y1, y2] := by clear hf; match xs, hx with | [y0, y1, y2], _ => exact ⟨y0, y1, y2, rfl⟩
 have g0 := hf 0 (by omega)
 rw [show Try.prog.cellsOf 3 = 1 from by kernel_rfl] at g0
 obtain ⟨v0, q0, _, w0⟩ := DataW.trod_int (cs := [c0]) (x := y0) Try.underlying3 g0
 simp only [List.cons.injEq, and_true] at q0
 subst q0
 have g1 := hf 1 (by omega)
 rw [show Try.prog.cellsOf 3 = 1 from by kernel_rfl] at g1
 obtain ⟨v1, q1, _, w1⟩ := DataW.trod_int (cs := [c1]) (x := y1) Try.underlying3 g1
 simp only [List.cons.injEq, and_true] at q1
 subst q1
 have g2 := hf 2 (by omega)
 rw [show Try.prog.cellsOf 3 = 1 from by kernel_rfl] at g2
 obtain ⟨v2, q2, _, w2⟩ := DataW.trod_int (cs := [c2]) (x := y2) Try.underlying3 g2
 simp only [List.cons.injEq, and_true] at q2
 subst q2
 refine ⟨⟨v0, v1, v2⟩, rfl, ?_⟩
 unfold WF22
 exact ⟨w0, w1, w2⟩
theorem addr_add_add (a : Addr) (i j : Nat) : (a.add i).add j = a.add (i + j) := by
 unfold Addr.add
 by_cases hi : i = 0 <;> by_cases hj : j = 0 <;> simp [hi, hj, Nat.add_assoc]
theorem rowsk22 {H : Type} {enc : TypeId × Value → H} {W : World} {base : Nat} {spare : Nat → Bool} {held : Bool} {t : Nat} {a : Option Addr} {len cap : Nat} {d : DataW H} {ps : List MemPlace} (hu : Try.prog.underlying t = some (.slice 22)) (h : DataW.Trod enc Try.prog W base spare held t (.slice a len cap) d ps) : ∃ l : List S22, l.length = len ∧ Kd.C k22 W a l.length l ∧ l.length ≤ cap ∧ ∀ x ∈ l, WF22 x := by
 obtain ⟨fuel, hf⟩ := h
 rcases Go.Deep.open_slice hu hf with ⟨hcs, _⟩ | ⟨x, l, c, m, n, D, Pl, hcs, hb, hl, hm, hmm, _, hel⟩
 ·simp [Value.cells] at hcs
  obtain ⟨rfl, rfl, rfl⟩ := hcs
  exact ⟨[], rfl, Kd.C_nil _ _, Nat.le_refl _, by simp⟩
 ·simp [Value.cells] at hcs
  obtain ⟨rfl, rfl, rfl⟩ := hcs
  have hle : len ≤ m := by rw [hmm]; split <;> omega
  rw [show Try.prog.cellsOf 22 = 3 from by kernel_rfl] at hel
  have hc : ∀ i, i < len → ∃ y : S22, W.cells? base (x.add (i * 3)) 3 = some [.int .i64 y.f0, .int .i64 y.f1, .int .i64 y.f2] ∧ WF22 y := by
   intro i hi
   obtain ⟨cs', h1, h2⟩ := hel i (by omega)
   obtain ⟨y, rfl, wy⟩ := openk22 h2
   exact ⟨y, h1, wy⟩
  haveI : Inhabited S22 := ⟨z22⟩
  obtain ⟨Y, hY⟩ := Go.Deep.choose_lt hc
  have hlen : ((List.range len).map Y).length = len := by simp
  refine ⟨(List.range len).map Y, hlen, ⟨rfl, by unfold maxLen at hm; omega, fun _ => ⟨x, rfl, fun j p hj => ?_⟩⟩, by omega, ?_⟩
  ·obtain ⟨hj1, hj2⟩ := List.getElem?_eq_some_iff.1 hj
   have hj3 : j < len := by omega
   have hp : p = Y j := by rw [← hj2]; simp
   subst hp
   obtain ⟨h1, _⟩ := hY j hj3
   obtain ⟨_, _, h2⟩ := World.cells?_some h1
   refine ⟨[.int .i64 (Y j).f0, .int .i64 (Y j).f1, .int .i64 (Y j).f2], rfl, k22_mk _ _, fun i u hu => ?_⟩
   have hi : i < 3 := (List.getElem?_eq_some_iff.1 hu).1
   have h3 := h2 i hi
   rw [hu, addr_add_add] at h3
   exact h3
  ·intro y hy
   obtain ⟨i, hi, rfl⟩ := List.mem_map.1 hy
   exact (hY i (by simpa using hi)).2
theorem sizedk22 {H : Type} {enc : TypeId × Value → H} {W : World} {base : Nat} {spare : Nat → Bool} {held : Bool} {t : Nat} {a : Option Addr} {len cap : Nat} {d : DataW H} {ps : List MemPlace} {ts : List TypeId} {ds : List (DataW H)} {j : Nat}
  (hsz : (DataW.weightsEach Try.prog ts ds).all (· ≤ reachBytes) = true) (ht : ts[j]? = some t) (hd : ds[j]? = some d) (hu : Try.prog.underlying t = some (.slice 22)) (h : DataW.Trod enc Try.prog W base spare held t (.slice a len cap) d ps) : len * 24 ≤ 140737488351232 := by
 obtain ⟨fuel, hf⟩ := h
 rcases Go.Deep.open_slice hu hf with ⟨hcs, _⟩ | ⟨x, l, c, m, n, D, Pl, hcs, hb, hl, hm, hmm, hx, hel⟩
 ·simp [Value.cells] at hcs
  obtain ⟨rfl, rfl, rfl⟩ := hcs
  simp
 ·simp [Value.cells] at hcs
  obtain ⟨rfl, rfl, rfl⟩ := hcs
  obtain ⟨rfl, _⟩ := Prod.mk.inj hx
  have z := sized_slice hsz ht hd hu
  rw [show Try.prog.bytesOf 22 = 24 from by kernel_rfl, List.length_map, List.length_range] at z
  exact Nat.le_trans (Nat.mul_le_mul_right _ (Nat.le_add_right _ _)) z
/-- THE ONE PURE STATEMENT of w26_ProbeReports. -/
def w26_ProbeReports.Pure : Prop := ∀ (l0 : List (S22)) (a1 : Int) (a2 : Bool), l0.length * 24 ≤ 140737488351232 → (∀ x ∈ l0, WF22 x) → (Lit.int .i64 a1).wf = true → ∃ k, w26_ProbeReports.f k l0 a1 a2 = some true
theorem w26_ProbeReports.walk (P : w26_ProbeReports.Pure) (A0 : Option Addr) (c0 : Nat) (l0 : List (S22)) (a1 : Int) (a2 : Bool) (w : World) (hr0 : Kd.C k22 w A0 l0.length l0) (hc0 : l0.length ≤ c0) (y0 : l0.length * 24 ≤ 140737488351232) (w0 : (∀ x ∈ l0, WF22 x)) (w1 : (Lit.int .i64 a1).wf = true) :
  Calls Try.prog 10 #[.slice A0 l0.length c0, .int .i64 a1, .bool a2] w fun e w' => e = .returned (.bool true) ∧ Below w.heap.size w w' := by
 obtain ⟨k, h⟩ := P l0 a1 a2 y0 w0 w1
 refine (w26_ProbeReports.calls k A0 c0 l0 a1 a2 true w hr0 hc0 h rfl).mono ?_
 rintro e w' ⟨rfl, hd⟩
 exact ⟨rfl, hd⟩

end Go.Proofs.Ytmgmpifbhjoijaa.PProbeReports
