/- WideParts: for every input that can be read as data the call of the law's Go function returns true and leaves what it was given as it was; no condition of ours. -/
-- Made by px.py (a program of this session, over the kit's printer) out of the translation. Not trusted: Lean checks it.
import Derived.Test.YtbkjoojfpmokaaaRows
import Derived.Test.YtbkjoojfpmokaaaPWidePartsx7
import Derived.Test.YtbkjoojfpmokaaaPureWideParts
import Derived.WalkKit
import Derived.ProofKit
import Derived.OpenShut
import Derived.ShutString
import Derived.ChangeOld
import Derived.Below
import Derived.SizedLaws
import Derived.Deep.Slices
import Derived.Test.YtbkjoojfpmokaaaWSized
namespace Go.Proofs.Ytbkjoojfpmokaaa.wideParts
open Go.ChangeShapes Go.WideShapes Go.ChangeAt Go.RowKit
open Go.ChangeMaps (open_string shut_string)
set_option linter.unusedVariables false
theorem own : ownKnob Try.prog.godebug = none := by kernel_rfl
theorem laidOut : laidOutB Try.prog = true := by kernel_rfl
set_option maxRecDepth 100000 in
theorem lifted (os : Os) (started : os.Started) (H : Type) (enc : TypeId × Value → H) :
    ReturnsInHanded {} Try.checked os 8 .any (Rows.widePartsSpec.pre6 enc Try.prog Try.f8 Rows.widePartsRow.domain false) (Rows.widePartsSpec.post enc Try.prog Try.f8 false true false false) := by
  refine returnsInHanded_of_change_sized (C := Try.checked) own started (by kernel_rfl) Try.func8
    (ChangeSpec.witness6 (enc := enc) (C := Try.checked) false ⟨#[], #[.agg #[.int .u64 0, .int .u64 0], .int .u64 0, .agg #[.int .u64 0, .int .u64 0, .int .u64 0, .int .u64 0]], []⟩ 8 (by kernel_rfl) (by kernel_rfl) (by kernel_rfl) (by kernel_rfl)) ?_
  intro W base args ds gs before hval0 hW hcnd hsz0 _
  have hsz : (DataW.weightsEach Try.prog (Try.f8.params.toList ++ Rows.widePartsSpec.plain.varTypes Try.prog) (ds ++ gs)).all (· ≤ reachBytes) = true := hsz0
  have hval : ∀ (j : Nat) t v, Try.f8.params[j]? = some t → args[j]? = some v → Value.okWide Try.prog W .any base t v := hval0
  have hW' := hW
  obtain ⟨p, q, hA0, hV, rfl, hfz, hnd⟩ := hW
  have hA : DataW.TrodAll enc Try.prog W 0 (fun _ => true) true Try.f8.params.toList args.toList ds p := hA0
  rw [Try.params8] at hA hval hsz
  obtain ⟨v0, vs0, d0, ds0, p0, q0, hargs, rfl, rfl, h0, r0⟩ := trodAll_cons hA
  obtain ⟨v1, vs1, d1, ds1, p1, q1, rfl, rfl, rfl, h1, r1⟩ := trodAll_cons r0
  obtain ⟨v2, vs2, d2, ds2, p2, q2, rfl, rfl, rfl, h2, r2⟩ := trodAll_cons r1
  obtain ⟨rfl, rfl, rfl⟩ := trodAll_nil r2
  obtain rfl : args = #[v0, v1, v2] := by cases args; simp_all
  obtain ⟨rfl, rfl⟩ := trodVars_none hV
  obtain ⟨cs0, rfl, _⟩ : ∃ cs, v0 = .agg cs ∧ cs.size = Try.prog.cellsOf 44 := by
    have z := (hval 0 44 v0 rfl rfl)
    simp only [Value.okWide, Try.underlying44] at z
    obtain ⟨cs, z1, z2, _⟩ := z
    exact ⟨cs, z1, z2⟩
  have k0 := h0
  have lt0 : ∀ x ∈ p0, x.block < W.heap.size := by obtain ⟨m, hm⟩ := k0; exact DataW.trod_lt m _ _ _ hm
  obtain ⟨s0, e0, w0⟩ : ∃ y : PWideParts.S44, cs0 = #[.int .u64 y.f0, .int .u64 y.f1] ∧ PWideParts.WF44 y := by
    obtain ⟨fuel, hf⟩ := h0
    obtain ⟨y, hy, wy⟩ := PWideParts.openk44 hf
    refine ⟨y, ?_, wy⟩
    apply Array.ext'
    simpa [Value.cells] using hy
  subst e0
  unfold PWideParts.WF44 at w0
  obtain ⟨w0_0, w0_1⟩ := w0
  obtain ⟨a1, rfl, rfl, rfl, w1⟩ := open_int Try.underlying42 (hval 1 42 v1 rfl rfl) h1
  obtain ⟨cs2, rfl, _⟩ : ∃ cs, v2 = .agg cs ∧ cs.size = Try.prog.cellsOf 45 := by
    have z := (hval 2 45 v2 rfl rfl)
    simp only [Value.okWide, Try.underlying45] at z
    obtain ⟨cs, z1, z2, _⟩ := z
    exact ⟨cs, z1, z2⟩
  have k2 := h2
  have lt2 : ∀ x ∈ p2, x.block < W.heap.size := by obtain ⟨m, hm⟩ := k2; exact DataW.trod_lt m _ _ _ hm
  obtain ⟨s2, e2, w2⟩ : ∃ y : PWideParts.S45, cs2 = #[.int .u64 y.f0, .int .u64 y.f1, .int .u64 y.f2, .int .u64 y.f3] ∧ PWideParts.WF45 y := by
    obtain ⟨fuel, hf⟩ := h2
    obtain ⟨y, hy, wy⟩ := PWideParts.openk45 hf
    refine ⟨y, ?_, wy⟩
    apply Array.ext'
    simpa [Value.cells] using hy
  subst e2
  unfold PWideParts.WF45 at w2
  obtain ⟨w2_0, w2_1, w2_2, w2_3⟩ := w2
  clear hA0 hval0 hsz0 hsz
  refine (PWideParts.horariumlaw01_WideParts.walk Pure.WideParts s0.f0 s0.f1 a1 s2.f0 s2.f1 s2.f2 s2.f3 W w0_0 w0_1 w1 w2_0 w2_1 w2_2 w2_3).mono fun e W' ⟨he, bel⟩ => ?_
  subst he
  exact ⟨_, rfl, _, _, _, [], _, [], hW', trodAll_mk1 (shut_bool Try.underlying4 _), (trodAll_cons_mk (Below.trod laidOut (by kernel_rfl) (of_decide_eq_true (by kernel_rfl)) k0 bel lt0) (trodAll_cons_mk (shut_int Try.underlying42 w1) (trodAll_cons_mk (Below.trod laidOut (by kernel_rfl) (of_decide_eq_true (by kernel_rfl)) k2 bel lt2) trodAll_mk0))), rfl, bel.frame _, fun h => by cases h⟩
theorem over : Rows.widePartsRow.holds Try.pinned (OpenSpec.ofChange Rows.widePartsSpec) :=
  OpenClaim.holds_of_wide 8 Try.f8 rfl rfl rfl rfl rfl rfl rfl ⟨rfl, rfl, rfl, rfl, rfl⟩ rfl rfl rfl rfl rfl (by kernel_rfl) Try.func8 (by kernel_rfl)
    (of_decide_eq_true (by kernel_rfl)) (by unfold Func.isWrapper; first | (rw [if_pos (by decide +kernel)]; kernel_rfl) | (rw [if_neg (by decide +kernel)]; exact ⟨rfl, rfl⟩))
    (fun os started H enc _ => lifted os started H enc)
theorem proved : Rows.WidePartsSaid := over
#print axioms proved
end Go.Proofs.Ytbkjoojfpmokaaa.wideParts
namespace Go.Proofs.Ytbkjoojfpmokaaa
/-- The row, under a short name, for the claim. -/
theorem wideParts_holds : Rows.WidePartsSaid := wideParts.proved
end Go.Proofs.Ytbkjoojfpmokaaa
