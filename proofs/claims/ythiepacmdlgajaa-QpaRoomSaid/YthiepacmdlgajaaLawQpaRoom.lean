/- QpaRoom: for every input that can be read as data the call of the law's Go function returns true and leaves what it was given as it was; no condition of ours. -/
-- Made by px.py (a program of this session, over the kit's printer) out of the translation. Not trusted: Lean checks it.
import Derived.Test.YthiepacmdlgajaaRows
import Derived.Test.YthiepacmdlgajaaPQpaRoomx11
import Derived.Test.YthiepacmdlgajaaPureQpaRoom
import Derived.WalkKit
import Derived.ProofKit
import Derived.OpenShut
import Derived.ShutString
import Derived.ChangeOld
import Derived.Below
import Derived.SizedLaws
import Derived.Deep.Slices
import Derived.Test.YthiepacmdlgajaaWSized
namespace Go.Proofs.Ythiepacmdlgajaa.qpaRoom
open Go.ChangeShapes Go.WideShapes Go.ChangeAt Go.RowKit
open Go.ChangeMaps (open_string shut_string)
set_option linter.unusedVariables false
theorem own : ownKnob Try.prog.godebug = none := by kernel_rfl
theorem laidOut : laidOutB Try.prog = true := by kernel_rfl
set_option maxRecDepth 100000 in
theorem lifted (os : Os) (started : os.Started) (H : Type) (enc : TypeId × Value → H) :
    ReturnsInHanded {} Try.checked os 12 .any (Rows.qpaRoomSpec.pre6 enc Try.prog Try.f12 Rows.qpaRoomRow.domain false) (Rows.qpaRoomSpec.post enc Try.prog Try.f12 false true false false) := by
  refine returnsInHanded_of_change_sized (C := Try.checked) own started (by kernel_rfl) Try.func12
    (ChangeSpec.witness6 (enc := enc) (C := Try.checked) false ⟨#[], #[.slice none 0 0, .agg #[.int .i64 0, .int .i64 0, .int .i64 0]], []⟩ 8 (by kernel_rfl) (by kernel_rfl) (by kernel_rfl) (by kernel_rfl)) ?_
  intro W base args ds gs before hval0 hW hcnd hsz0 _
  have hsz : (DataW.weightsEach Try.prog (Try.f12.params.toList ++ Rows.qpaRoomSpec.plain.varTypes Try.prog) (ds ++ gs)).all (· ≤ reachBytes) = true := hsz0
  have hval : ∀ (j : Nat) t v, Try.f12.params[j]? = some t → args[j]? = some v → Value.okWide Try.prog W .any base t v := hval0
  have hW' := hW
  obtain ⟨p, q, hA0, hV, rfl, hfz, hnd⟩ := hW
  have hA : DataW.TrodAll enc Try.prog W 0 (fun _ => true) true Try.f12.params.toList args.toList ds p := hA0
  rw [Try.params12] at hA hval hsz
  obtain ⟨v0, vs0, d0, ds0, p0, q0, hargs, rfl, rfl, h0, r0⟩ := trodAll_cons hA
  obtain ⟨v1, vs1, d1, ds1, p1, q1, rfl, rfl, rfl, h1, r1⟩ := trodAll_cons r0
  obtain ⟨rfl, rfl, rfl⟩ := trodAll_nil r1
  obtain rfl : args = #[v0, v1] := by cases args; simp_all
  obtain ⟨rfl, rfl⟩ := trodVars_none hV
  obtain ⟨a0, len0, cap0, rfl⟩ := okWide_slice Try.underlying22 (hval 0 22 v0 rfl rfl)
  have k0 := h0
  have lt0 : ∀ x ∈ p0, x.block < W.heap.size := by obtain ⟨m, hm⟩ := k0; exact DataW.trod_lt m _ _ _ hm
  have y0 := PQpaRoom.sizedk31 hsz (j := 0) (t := 22) rfl rfl Try.underlying22 h0
  obtain ⟨l0, rfl, hr0, hc0, w0⟩ := PQpaRoom.rowsk31 Try.underlying22 h0
  obtain ⟨cs1, rfl, _⟩ : ∃ cs, v1 = .agg cs ∧ cs.size = Try.prog.cellsOf 31 := by
    have z := (hval 1 31 v1 rfl rfl)
    simp only [Value.okWide, Try.underlying31] at z
    obtain ⟨cs, z1, z2, _⟩ := z
    exact ⟨cs, z1, z2⟩
  have k1 := h1
  have lt1 : ∀ x ∈ p1, x.block < W.heap.size := by obtain ⟨m, hm⟩ := k1; exact DataW.trod_lt m _ _ _ hm
  obtain ⟨s1, e1, w1⟩ : ∃ y : PQpaRoom.S31, cs1 = #[.int .i64 y.f0, .int .i64 y.f1, .int .i64 y.f2] ∧ PQpaRoom.WF31 y := by
    obtain ⟨fuel, hf⟩ := h1
    obtain ⟨y, hy, wy⟩ := PQpaRoom.openk31 hf
    refine ⟨y, ?_, wy⟩
    apply Array.ext'
    simpa [Value.cells] using hy
  subst e1
  unfold PQpaRoom.WF31 at w1
  obtain ⟨w1_0, w1_1, w1_2⟩ := w1
  clear hA0 hval0 hsz0 hsz
  refine (PQpaRoom.horariumlaw12_QpaRoom.walk Pure.QpaRoom _ _ l0 s1.f0 s1.f1 s1.f2 W hr0 hc0 y0 w0 w1_0 w1_1 w1_2).mono fun e W' ⟨he, bel⟩ => ?_
  subst he
  exact ⟨_, rfl, _, _, _, [], _, [], hW', trodAll_mk1 (shut_bool Try.underlying4 _), (trodAll_cons_mk (Below.trod laidOut (by kernel_rfl) (of_decide_eq_true (by kernel_rfl)) k0 bel lt0) (trodAll_cons_mk (Below.trod laidOut (by kernel_rfl) (of_decide_eq_true (by kernel_rfl)) k1 bel lt1) trodAll_mk0)), rfl, bel.frame _, fun h => by cases h⟩
theorem over : Rows.qpaRoomRow.holds Try.pinned (OpenSpec.ofChange Rows.qpaRoomSpec) :=
  OpenClaim.holds_of_wide 12 Try.f12 rfl rfl rfl rfl rfl rfl rfl ⟨rfl, rfl, rfl, rfl, rfl⟩ rfl rfl rfl rfl rfl (by kernel_rfl) Try.func12 (by kernel_rfl)
    (of_decide_eq_true (by kernel_rfl)) (by unfold Func.isWrapper; first | (rw [if_pos (by decide +kernel)]; kernel_rfl) | (rw [if_neg (by decide +kernel)]; exact ⟨rfl, rfl⟩))
    (fun os started H enc _ => lifted os started H enc)
theorem proved : Rows.QpaRoomSaid := over
#print axioms proved
end Go.Proofs.Ythiepacmdlgajaa.qpaRoom
namespace Go.Proofs.Ythiepacmdlgajaa
/-- The row, under a short name, for the claim. -/
theorem qpaRoom_holds : Rows.QpaRoomSaid := qpaRoom.proved
end Go.Proofs.Ythiepacmdlgajaa
