-- Made by px.py (a program of this session, over the kit's printer) out of the translation. Not trusted: Lean checks it.
import Derived.Test.YtaifojmlbbaabaaPDemandMorex0
import Derived.Test.YtaifojmlbbaabaaPDemandMorex1
namespace Go.Proofs.Ytaifojmlbbaabaa.PDemandMore
open Go.RowKit Go.Proofs.YtaifojmlbbaabaaW.PrintWords Go.Proofs.YtaifojmlbbaabaaW.PrintLast Go.Proofs.YtaifojmlbbaabaaW.PrintMore
attribute [local go_sem] max2_int min2_int max_two min_two max_three min_three max_four min_four   -- for this text's walks alone
set_option linter.unusedVariables false
set_option linter.unusedSimpArgs false

/-! ### horariumlaw10_DemandMore: function 4 -/
def horariumlaw10_DemandMore.j0 : Nat → Bool → Int → Int → Int → Int → Int → Int → Int → Int → Int → Int → Int → Option (Bool)
  | 0, _, _, _, _, _, _, _, _, _, _, _, _ => none
  | k + 1, x7, x9, x137000, x137001, x137002, x137003, x137004, x138000, x138001, x138002, x138003, x138004 => if x7 = true then ((demand_One.f k x138000 x138001 x138002 x138003 x138004 x9).bind fun t138 => ((demand_One.f k x137000 x137001 x137002 x137003 x137004 x9).bind fun t139 => (if t138 ≥ t139 then ((demand_Of.f k (([(⟨x138000, x138001, x138002, x138003, x138004⟩ : S28), (⟨x137000, x137001, x137002, x137003, x137004⟩ : S28)] : List (S28))) x9).bind fun t143 => ((demand_One.f k x138000 x138001 x138002 x138003 x138004 x9).bind fun t144 => ((demand_One.f k x137000 x137001 x137002 x137003 x137004 x9).bind fun t145 => (some (t143 == (wrap64 (t144 + t145))))))) else (some false)))) else (some false)
def horariumlaw10_DemandMore.f (k : Nat) (a0_0 : Int) (a0_1 : Int) (a0_2 : Int) (a1 : Int) (a2 : Int) : Option (Bool) := (horariumlaw10_awake.f k).bind fun t128 => ((horariumlaw10_made.f k (([(⟨a0_0, a0_1, a0_2⟩ : S31)] : List (S31)))).bind fun t132 => (if 0 < (t132.length : Int) then (if (Int.tmod (wrap64 ((Int.tmod a1 3) + 3)) 3) = 0 then (if ((rd_T28 t132 0).f1) < ((rd_T28 t132 0).f2) then (horariumlaw10_DemandMore.j0 k t128 (Go.bits .and .i64 a2 1048575) ((rd_T28 t132 0).f0) ((rd_T28 t132 0).f1) ((rd_T28 t132 0).f2) ((rd_T28 t132 0).f3) ((rd_T28 t132 0).f4) ((rd_T28 t132 0).f0) (wrap64 (((rd_T28 t132 0).f1) + 1)) ((rd_T28 t132 0).f2) ((rd_T28 t132 0).f3) ((rd_T28 t132 0).f4)) else (horariumlaw10_DemandMore.j0 k t128 (Go.bits .and .i64 a2 1048575) ((rd_T28 t132 0).f0) ((rd_T28 t132 0).f1) ((rd_T28 t132 0).f2) ((rd_T28 t132 0).f3) ((rd_T28 t132 0).f4) ((rd_T28 t132 0).f0) ((rd_T28 t132 0).f1) ((rd_T28 t132 0).f2) ((rd_T28 t132 0).f3) ((rd_T28 t132 0).f4))) else (if (Int.tmod (wrap64 ((Int.tmod a1 3) + 3)) 3) = 1 then (if ((rd_T28 t132 0).f2) > ((rd_T28 t132 0).f1) then (horariumlaw10_DemandMore.j0 k t128 (Go.bits .and .i64 a2 1048575) ((rd_T28 t132 0).f0) ((rd_T28 t132 0).f1) ((rd_T28 t132 0).f2) ((rd_T28 t132 0).f3) ((rd_T28 t132 0).f4) ((rd_T28 t132 0).f0) ((rd_T28 t132 0).f1) (wrap64 (((rd_T28 t132 0).f2) - 1)) ((rd_T28 t132 0).f3) ((rd_T28 t132 0).f4)) else (horariumlaw10_DemandMore.j0 k t128 (Go.bits .and .i64 a2 1048575) ((rd_T28 t132 0).f0) ((rd_T28 t132 0).f1) ((rd_T28 t132 0).f2) ((rd_T28 t132 0).f3) ((rd_T28 t132 0).f4) ((rd_T28 t132 0).f0) ((rd_T28 t132 0).f1) ((rd_T28 t132 0).f2) ((rd_T28 t132 0).f3) ((rd_T28 t132 0).f4))) else (if (Int.tmod (wrap64 ((Int.tmod a1 3) + 3)) 3) = 2 then (if ((rd_T28 t132 0).f3) > ((rd_T28 t132 0).f2) then (horariumlaw10_DemandMore.j0 k t128 (Go.bits .and .i64 a2 1048575) ((rd_T28 t132 0).f0) ((rd_T28 t132 0).f1) ((rd_T28 t132 0).f2) ((rd_T28 t132 0).f3) ((rd_T28 t132 0).f4) ((rd_T28 t132 0).f0) ((rd_T28 t132 0).f1) ((rd_T28 t132 0).f2) (wrap64 (((rd_T28 t132 0).f3) - 1)) ((rd_T28 t132 0).f4)) else (horariumlaw10_DemandMore.j0 k t128 (Go.bits .and .i64 a2 1048575) ((rd_T28 t132 0).f0) ((rd_T28 t132 0).f1) ((rd_T28 t132 0).f2) ((rd_T28 t132 0).f3) ((rd_T28 t132 0).f4) ((rd_T28 t132 0).f0) ((rd_T28 t132 0).f1) ((rd_T28 t132 0).f2) ((rd_T28 t132 0).f3) ((rd_T28 t132 0).f4))) else (horariumlaw10_DemandMore.j0 k t128 (Go.bits .and .i64 a2 1048575) ((rd_T28 t132 0).f0) ((rd_T28 t132 0).f1) ((rd_T28 t132 0).f2) ((rd_T28 t132 0).f3) ((rd_T28 t132 0).f4) ((rd_T28 t132 0).f0) ((rd_T28 t132 0).f1) ((rd_T28 t132 0).f2) ((rd_T28 t132 0).f3) ((rd_T28 t132 0).f4))))) else (none)))
theorem horariumlaw10_DemandMore.mono_l : ∀ k, (∀ y0 y1 y2 y3 y4 y5 y6 y7 y8 y9 y10 y11, LeO (horariumlaw10_DemandMore.j0 k y0 y1 y2 y3 y4 y5 y6 y7 y8 y9 y10 y11) (horariumlaw10_DemandMore.j0 (k + 1) y0 y1 y2 y3 y4 y5 y6 y7 y8 y9 y10 y11))
  | 0 => fun _ _ _ _ _ _ _ _ _ _ _ _ r h => by simp [horariumlaw10_DemandMore.j0] at h
  | k + 1 => by
    have ih0 := horariumlaw10_DemandMore.mono_l k
    · intro y0 y1 y2 y3 y4 y5 y6 y7 y8 y9 y10 y11
      unfold horariumlaw10_DemandMore.j0
      repeat' first
      | (with_reducible exact ih0 _ _ _ _ _ _ _ _ _ _ _ _)
      | (with_reducible exact demand_Of.mono _ _ _)
      | (with_reducible exact demand_One.mono _ _ _ _ _ _ _)
      | (with_reducible exact horariumlaw10_awake.mono _)
      | (with_reducible exact horariumlaw10_made.mono _ _)
      | (with_reducible exact LeO.refl _)
      | (with_reducible exact LeO.none _)
      | (with_reducible refine LeO.ite ?_ ?_)
      | (with_reducible refine LeO.bind ?_ (fun _ => ?_))
      | exact ih0 _ _ _ _ _ _ _ _ _ _ _ _
      | exact demand_Of.mono _ _ _
      | exact demand_One.mono _ _ _ _ _ _ _
      | exact horariumlaw10_awake.mono _
      | exact horariumlaw10_made.mono _ _
      | exact LeO.none _
      | refine LeO.ite ?_ ?_
      | refine LeO.bind ?_ (fun _ => ?_)
theorem horariumlaw10_DemandMore.mono : ∀ a0 a1 a2 a3 a4 k, LeO (horariumlaw10_DemandMore.f k a0 a1 a2 a3 a4) (horariumlaw10_DemandMore.f (k + 1) a0 a1 a2 a3 a4) := by
  intro a0 a1 a2 a3 a4 k
  have ih0 := horariumlaw10_DemandMore.mono_l k
  unfold horariumlaw10_DemandMore.f
  repeat' first
      | (with_reducible exact ih0 _ _ _ _ _ _ _ _ _ _ _ _)
      | (with_reducible exact demand_Of.mono _ _ _)
      | (with_reducible exact demand_One.mono _ _ _ _ _ _ _)
      | (with_reducible exact horariumlaw10_awake.mono _)
      | (with_reducible exact horariumlaw10_made.mono _ _)
      | (with_reducible exact LeO.refl _)
      | (with_reducible exact LeO.none _)
      | (with_reducible refine LeO.ite ?_ ?_)
      | (with_reducible refine LeO.bind ?_ (fun _ => ?_))
      | exact ih0 _ _ _ _ _ _ _ _ _ _ _ _
      | exact demand_Of.mono _ _ _
      | exact demand_One.mono _ _ _ _ _ _ _
      | exact horariumlaw10_awake.mono _
      | exact horariumlaw10_made.mono _ _
      | exact LeO.none _
      | refine LeO.ite ?_ ?_
      | refine LeO.bind ?_ (fun _ => ?_)
def horariumlaw10_DemandMore.T15 : Bool × List (List Nat × List Nat) := (true, [([], []), ([0], [0]), ([1], [1]), ([1], [1]), ([2, 3, 1, 1], [1, 2, 3]), ([1], [1]), ([1], [1]), ([5, 6, 4, 1], [1, 5, 6]), ([4, 7, 1], [1, 4, 7]), ([1, 8], [1, 8]), ([9, 7], [9]), ([10], [10]), ([10], [10]), ([11, 12, 10], [10, 11, 12]), ([10], [10]), ([13, 14, 10, 10], [10, 13, 14]), ([10], [10]), ([10], [10]), ([16, 17, 15, 10], [10, 16, 17]), ([10], [10]), ([10], [10]), ([19, 20, 18, 10], [10, 19, 20]), ([18, 21, 10], [10, 18, 21]), ([15, 22, 10], [10, 15, 22]), ([10, 23], [10, 23]), ([24, 21, 0, 1, 2, 3, 4, 5, 6, 7, 8, 9, 10, 11, 12, 13, 14, 15, 16, 17, 18, 19, 20, 21, 22, 23, 24], [24])])
def horariumlaw10_DemandMore.B15 : List Nat := [0, 1, 3, 3, 15, 3, 3, 127, 255, 511, 1023, 2047, 2047, 8191, 2047, 32767, 2047, 2047, 262143, 2047, 2047, 2097151, 4194303, 8388607, 16777215, 33554431]
theorem horariumlaw10_DemandMore.tab15 : rtab .any (opsOf Try.f4 15) = horariumlaw10_DemandMore.T15 := by kernel_rfl
theorem horariumlaw10_DemandMore.bits15 : waitsOk horariumlaw10_DemandMore.T15.2 horariumlaw10_DemandMore.B15 = true := by kernel_rfl
set_option maxHeartbeats 8000000 in
set_option maxRecDepth 100000 in
theorem horariumlaw10_DemandMore.calls (k : Nat) (a0_0 : Int) (a0_1 : Int) (a0_2 : Int) (a1 : Int) (a2 : Int) (r : Bool) (w : World) (h : horariumlaw10_DemandMore.f k a0_0 a0_1 a0_2 a1 a2 = some r) :
    Calls Try.prog 4 #[.agg #[.int .i64 a0_0, .int .i64 a0_1, .int .i64 a0_2], .int .i64 a1, .int .i64 a2] w fun e w' => e = .returned (.bool r) ∧ Below w.heap.size w w' := by
  have hu31 := Try.underlying31
  have hu28 := Try.underlying28
  have HB := Aside0.mk (Below.refl w.heap.size w)
  have H : ((horariumlaw10_awake.f k).bind fun t128 => ((horariumlaw10_made.f k (([(⟨a0_0, a0_1, a0_2⟩ : S31)] : List (S31)))).bind fun t132 => (if 0 < (t132.length : Int) then (if (Int.tmod (wrap64 ((Int.tmod a1 3) + 3)) 3) = 0 then (if ((rd_T28 t132 0).f1) < ((rd_T28 t132 0).f2) then (horariumlaw10_DemandMore.j0 k t128 (Go.bits .and .i64 a2 1048575) ((rd_T28 t132 0).f0) ((rd_T28 t132 0).f1) ((rd_T28 t132 0).f2) ((rd_T28 t132 0).f3) ((rd_T28 t132 0).f4) ((rd_T28 t132 0).f0) (wrap64 (((rd_T28 t132 0).f1) + 1)) ((rd_T28 t132 0).f2) ((rd_T28 t132 0).f3) ((rd_T28 t132 0).f4)) else (horariumlaw10_DemandMore.j0 k t128 (Go.bits .and .i64 a2 1048575) ((rd_T28 t132 0).f0) ((rd_T28 t132 0).f1) ((rd_T28 t132 0).f2) ((rd_T28 t132 0).f3) ((rd_T28 t132 0).f4) ((rd_T28 t132 0).f0) ((rd_T28 t132 0).f1) ((rd_T28 t132 0).f2) ((rd_T28 t132 0).f3) ((rd_T28 t132 0).f4))) else (if (Int.tmod (wrap64 ((Int.tmod a1 3) + 3)) 3) = 1 then (if ((rd_T28 t132 0).f2) > ((rd_T28 t132 0).f1) then (horariumlaw10_DemandMore.j0 k t128 (Go.bits .and .i64 a2 1048575) ((rd_T28 t132 0).f0) ((rd_T28 t132 0).f1) ((rd_T28 t132 0).f2) ((rd_T28 t132 0).f3) ((rd_T28 t132 0).f4) ((rd_T28 t132 0).f0) ((rd_T28 t132 0).f1) (wrap64 (((rd_T28 t132 0).f2) - 1)) ((rd_T28 t132 0).f3) ((rd_T28 t132 0).f4)) else (horariumlaw10_DemandMore.j0 k t128 (Go.bits .and .i64 a2 1048575) ((rd_T28 t132 0).f0) ((rd_T28 t132 0).f1) ((rd_T28 t132 0).f2) ((rd_T28 t132 0).f3) ((rd_T28 t132 0).f4) ((rd_T28 t132 0).f0) ((rd_T28 t132 0).f1) ((rd_T28 t132 0).f2) ((rd_T28 t132 0).f3) ((rd_T28 t132 0).f4))) else (if (Int.tmod (wrap64 ((Int.tmod a1 3) + 3)) 3) = 2 then (if ((rd_T28 t132 0).f3) > ((rd_T28 t132 0).f2) then (horariumlaw10_DemandMore.j0 k t128 (Go.bits .and .i64 a2 1048575) ((rd_T28 t132 0).f0) ((rd_T28 t132 0).f1) ((rd_T28 t132 0).f2) ((rd_T28 t132 0).f3) ((rd_T28 t132 0).f4) ((rd_T28 t132 0).f0) ((rd_T28 t132 0).f1) ((rd_T28 t132 0).f2) (wrap64 (((rd_T28 t132 0).f3) - 1)) ((rd_T28 t132 0).f4)) else (horariumlaw10_DemandMore.j0 k t128 (Go.bits .and .i64 a2 1048575) ((rd_T28 t132 0).f0) ((rd_T28 t132 0).f1) ((rd_T28 t132 0).f2) ((rd_T28 t132 0).f3) ((rd_T28 t132 0).f4) ((rd_T28 t132 0).f0) ((rd_T28 t132 0).f1) ((rd_T28 t132 0).f2) ((rd_T28 t132 0).f3) ((rd_T28 t132 0).f4))) else (horariumlaw10_DemandMore.j0 k t128 (Go.bits .and .i64 a2 1048575) ((rd_T28 t132 0).f0) ((rd_T28 t132 0).f1) ((rd_T28 t132 0).f2) ((rd_T28 t132 0).f3) ((rd_T28 t132 0).f4) ((rd_T28 t132 0).f0) ((rd_T28 t132 0).f1) ((rd_T28 t132 0).f2) ((rd_T28 t132 0).f3) ((rd_T28 t132 0).f4))))) else (none)))) = some r := h
  clear h
  replace H := Option.bind_eq_some_iff.mp H
  obtain ⟨t128, A40, H⟩ := H
  replace H : ((horariumlaw10_made.f k (([(⟨a0_0, a0_1, a0_2⟩ : S31)] : List (S31)))).bind fun t132 => (if 0 < (t132.length : Int) then (if (Int.tmod (wrap64 ((Int.tmod a1 3) + 3)) 3) = 0 then (if ((rd_T28 t132 0).f1) < ((rd_T28 t132 0).f2) then (horariumlaw10_DemandMore.j0 k t128 (Go.bits .and .i64 a2 1048575) ((rd_T28 t132 0).f0) ((rd_T28 t132 0).f1) ((rd_T28 t132 0).f2) ((rd_T28 t132 0).f3) ((rd_T28 t132 0).f4) ((rd_T28 t132 0).f0) (wrap64 (((rd_T28 t132 0).f1) + 1)) ((rd_T28 t132 0).f2) ((rd_T28 t132 0).f3) ((rd_T28 t132 0).f4)) else (horariumlaw10_DemandMore.j0 k t128 (Go.bits .and .i64 a2 1048575) ((rd_T28 t132 0).f0) ((rd_T28 t132 0).f1) ((rd_T28 t132 0).f2) ((rd_T28 t132 0).f3) ((rd_T28 t132 0).f4) ((rd_T28 t132 0).f0) ((rd_T28 t132 0).f1) ((rd_T28 t132 0).f2) ((rd_T28 t132 0).f3) ((rd_T28 t132 0).f4))) else (if (Int.tmod (wrap64 ((Int.tmod a1 3) + 3)) 3) = 1 then (if ((rd_T28 t132 0).f2) > ((rd_T28 t132 0).f1) then (horariumlaw10_DemandMore.j0 k t128 (Go.bits .and .i64 a2 1048575) ((rd_T28 t132 0).f0) ((rd_T28 t132 0).f1) ((rd_T28 t132 0).f2) ((rd_T28 t132 0).f3) ((rd_T28 t132 0).f4) ((rd_T28 t132 0).f0) ((rd_T28 t132 0).f1) (wrap64 (((rd_T28 t132 0).f2) - 1)) ((rd_T28 t132 0).f3) ((rd_T28 t132 0).f4)) else (horariumlaw10_DemandMore.j0 k t128 (Go.bits .and .i64 a2 1048575) ((rd_T28 t132 0).f0) ((rd_T28 t132 0).f1) ((rd_T28 t132 0).f2) ((rd_T28 t132 0).f3) ((rd_T28 t132 0).f4) ((rd_T28 t132 0).f0) ((rd_T28 t132 0).f1) ((rd_T28 t132 0).f2) ((rd_T28 t132 0).f3) ((rd_T28 t132 0).f4))) else (if (Int.tmod (wrap64 ((Int.tmod a1 3) + 3)) 3) = 2 then (if ((rd_T28 t132 0).f3) > ((rd_T28 t132 0).f2) then (horariumlaw10_DemandMore.j0 k t128 (Go.bits .and .i64 a2 1048575) ((rd_T28 t132 0).f0) ((rd_T28 t132 0).f1) ((rd_T28 t132 0).f2) ((rd_T28 t132 0).f3) ((rd_T28 t132 0).f4) ((rd_T28 t132 0).f0) ((rd_T28 t132 0).f1) ((rd_T28 t132 0).f2) (wrap64 (((rd_T28 t132 0).f3) - 1)) ((rd_T28 t132 0).f4)) else (horariumlaw10_DemandMore.j0 k t128 (Go.bits .and .i64 a2 1048575) ((rd_T28 t132 0).f0) ((rd_T28 t132 0).f1) ((rd_T28 t132 0).f2) ((rd_T28 t132 0).f3) ((rd_T28 t132 0).f4) ((rd_T28 t132 0).f0) ((rd_T28 t132 0).f1) ((rd_T28 t132 0).f2) ((rd_T28 t132 0).f3) ((rd_T28 t132 0).f4))) else (horariumlaw10_DemandMore.j0 k t128 (Go.bits .and .i64 a2 1048575) ((rd_T28 t132 0).f0) ((rd_T28 t132 0).f1) ((rd_T28 t132 0).f2) ((rd_T28 t132 0).f3) ((rd_T28 t132 0).f4) ((rd_T28 t132 0).f0) ((rd_T28 t132 0).f1) ((rd_T28 t132 0).f2) ((rd_T28 t132 0).f3) ((rd_T28 t132 0).f4))))) else (none))) = some r := H
  have A4 := Aside0.mk A40
  clear A40
  obtain ⟨y129, hy129⟩ : ∃ y_ : List (S31), y_ = (([(⟨a0_0, a0_1, a0_2⟩ : S31)] : List (S31))) := ⟨_, rfl⟩
  replace H : ((horariumlaw10_made.f k y129).bind fun t132 => (if 0 < (t132.length : Int) then (if (Int.tmod (wrap64 ((Int.tmod a1 3) + 3)) 3) = 0 then (if ((rd_T28 t132 0).f1) < ((rd_T28 t132 0).f2) then (horariumlaw10_DemandMore.j0 k t128 (Go.bits .and .i64 a2 1048575) ((rd_T28 t132 0).f0) ((rd_T28 t132 0).f1) ((rd_T28 t132 0).f2) ((rd_T28 t132 0).f3) ((rd_T28 t132 0).f4) ((rd_T28 t132 0).f0) (wrap64 (((rd_T28 t132 0).f1) + 1)) ((rd_T28 t132 0).f2) ((rd_T28 t132 0).f3) ((rd_T28 t132 0).f4)) else (horariumlaw10_DemandMore.j0 k t128 (Go.bits .and .i64 a2 1048575) ((rd_T28 t132 0).f0) ((rd_T28 t132 0).f1) ((rd_T28 t132 0).f2) ((rd_T28 t132 0).f3) ((rd_T28 t132 0).f4) ((rd_T28 t132 0).f0) ((rd_T28 t132 0).f1) ((rd_T28 t132 0).f2) ((rd_T28 t132 0).f3) ((rd_T28 t132 0).f4))) else (if (Int.tmod (wrap64 ((Int.tmod a1 3) + 3)) 3) = 1 then (if ((rd_T28 t132 0).f2) > ((rd_T28 t132 0).f1) then (horariumlaw10_DemandMore.j0 k t128 (Go.bits .and .i64 a2 1048575) ((rd_T28 t132 0).f0) ((rd_T28 t132 0).f1) ((rd_T28 t132 0).f2) ((rd_T28 t132 0).f3) ((rd_T28 t132 0).f4) ((rd_T28 t132 0).f0) ((rd_T28 t132 0).f1) (wrap64 (((rd_T28 t132 0).f2) - 1)) ((rd_T28 t132 0).f3) ((rd_T28 t132 0).f4)) else (horariumlaw10_DemandMore.j0 k t128 (Go.bits .and .i64 a2 1048575) ((rd_T28 t132 0).f0) ((rd_T28 t132 0).f1) ((rd_T28 t132 0).f2) ((rd_T28 t132 0).f3) ((rd_T28 t132 0).f4) ((rd_T28 t132 0).f0) ((rd_T28 t132 0).f1) ((rd_T28 t132 0).f2) ((rd_T28 t132 0).f3) ((rd_T28 t132 0).f4))) else (if (Int.tmod (wrap64 ((Int.tmod a1 3) + 3)) 3) = 2 then (if ((rd_T28 t132 0).f3) > ((rd_T28 t132 0).f2) then (horariumlaw10_DemandMore.j0 k t128 (Go.bits .and .i64 a2 1048575) ((rd_T28 t132 0).f0) ((rd_T28 t132 0).f1) ((rd_T28 t132 0).f2) ((rd_T28 t132 0).f3) ((rd_T28 t132 0).f4) ((rd_T28 t132 0).f0) ((rd_T28 t132 0).f1) ((rd_T28 t132 0).f2) (wrap64 (((rd_T28 t132 0).f3) - 1)) ((rd_T28 t132 0).f4)) else (horariumlaw10_DemandMore.j0 k t128 (Go.bits .and .i64 a2 1048575) ((rd_T28 t132 0).f0) ((rd_T28 t132 0).f1) ((rd_T28 t132 0).f2) ((rd_T28 t132 0).f3) ((rd_T28 t132 0).f4) ((rd_T28 t132 0).f0) ((rd_T28 t132 0).f1) ((rd_T28 t132 0).f2) ((rd_T28 t132 0).f3) ((rd_T28 t132 0).f4))) else (horariumlaw10_DemandMore.j0 k t128 (Go.bits .and .i64 a2 1048575) ((rd_T28 t132 0).f0) ((rd_T28 t132 0).f1) ((rd_T28 t132 0).f2) ((rd_T28 t132 0).f3) ((rd_T28 t132 0).f4) ((rd_T28 t132 0).f0) ((rd_T28 t132 0).f1) ((rd_T28 t132 0).f2) ((rd_T28 t132 0).f3) ((rd_T28 t132 0).f4))))) else (none))) = some r := by first | (rw [hy129]; with_reducible exact H) | (have H2_ := (Option.bind_some _ _).symm.trans H; rw [hy129]; with_reducible exact H2_) | (have H2_ := (Option.bind_some _ _).symm.trans H; with_reducible exact H2_) | with_reducible exact H | (rw [hy129]; exact H) | exact H
  have Ny129 := Aside0.mk hy129
  clear hy129
  replace H := Option.bind_eq_some_iff.mp H
  obtain ⟨t132, A50, H⟩ := H
  replace H : (if 0 < (t132.length : Int) then (if (Int.tmod (wrap64 ((Int.tmod a1 3) + 3)) 3) = 0 then (if ((rd_T28 t132 0).f1) < ((rd_T28 t132 0).f2) then (horariumlaw10_DemandMore.j0 k t128 (Go.bits .and .i64 a2 1048575) ((rd_T28 t132 0).f0) ((rd_T28 t132 0).f1) ((rd_T28 t132 0).f2) ((rd_T28 t132 0).f3) ((rd_T28 t132 0).f4) ((rd_T28 t132 0).f0) (wrap64 (((rd_T28 t132 0).f1) + 1)) ((rd_T28 t132 0).f2) ((rd_T28 t132 0).f3) ((rd_T28 t132 0).f4)) else (horariumlaw10_DemandMore.j0 k t128 (Go.bits .and .i64 a2 1048575) ((rd_T28 t132 0).f0) ((rd_T28 t132 0).f1) ((rd_T28 t132 0).f2) ((rd_T28 t132 0).f3) ((rd_T28 t132 0).f4) ((rd_T28 t132 0).f0) ((rd_T28 t132 0).f1) ((rd_T28 t132 0).f2) ((rd_T28 t132 0).f3) ((rd_T28 t132 0).f4))) else (if (Int.tmod (wrap64 ((Int.tmod a1 3) + 3)) 3) = 1 then (if ((rd_T28 t132 0).f2) > ((rd_T28 t132 0).f1) then (horariumlaw10_DemandMore.j0 k t128 (Go.bits .and .i64 a2 1048575) ((rd_T28 t132 0).f0) ((rd_T28 t132 0).f1) ((rd_T28 t132 0).f2) ((rd_T28 t132 0).f3) ((rd_T28 t132 0).f4) ((rd_T28 t132 0).f0) ((rd_T28 t132 0).f1) (wrap64 (((rd_T28 t132 0).f2) - 1)) ((rd_T28 t132 0).f3) ((rd_T28 t132 0).f4)) else (horariumlaw10_DemandMore.j0 k t128 (Go.bits .and .i64 a2 1048575) ((rd_T28 t132 0).f0) ((rd_T28 t132 0).f1) ((rd_T28 t132 0).f2) ((rd_T28 t132 0).f3) ((rd_T28 t132 0).f4) ((rd_T28 t132 0).f0) ((rd_T28 t132 0).f1) ((rd_T28 t132 0).f2) ((rd_T28 t132 0).f3) ((rd_T28 t132 0).f4))) else (if (Int.tmod (wrap64 ((Int.tmod a1 3) + 3)) 3) = 2 then (if ((rd_T28 t132 0).f3) > ((rd_T28 t132 0).f2) then (horariumlaw10_DemandMore.j0 k t128 (Go.bits .and .i64 a2 1048575) ((rd_T28 t132 0).f0) ((rd_T28 t132 0).f1) ((rd_T28 t132 0).f2) ((rd_T28 t132 0).f3) ((rd_T28 t132 0).f4) ((rd_T28 t132 0).f0) ((rd_T28 t132 0).f1) ((rd_T28 t132 0).f2) (wrap64 (((rd_T28 t132 0).f3) - 1)) ((rd_T28 t132 0).f4)) else (horariumlaw10_DemandMore.j0 k t128 (Go.bits .and .i64 a2 1048575) ((rd_T28 t132 0).f0) ((rd_T28 t132 0).f1) ((rd_T28 t132 0).f2) ((rd_T28 t132 0).f3) ((rd_T28 t132 0).f4) ((rd_T28 t132 0).f0) ((rd_T28 t132 0).f1) ((rd_T28 t132 0).f2) ((rd_T28 t132 0).f3) ((rd_T28 t132 0).f4))) else (horariumlaw10_DemandMore.j0 k t128 (Go.bits .and .i64 a2 1048575) ((rd_T28 t132 0).f0) ((rd_T28 t132 0).f1) ((rd_T28 t132 0).f2) ((rd_T28 t132 0).f3) ((rd_T28 t132 0).f4) ((rd_T28 t132 0).f0) ((rd_T28 t132 0).f1) ((rd_T28 t132 0).f2) ((rd_T28 t132 0).f3) ((rd_T28 t132 0).f4))))) else (none)) = some r := H
  have A5 := Aside0.mk A50
  clear A50
  by_cases c6 : 0 < (t132.length : Int)
  · rw [if_pos c6] at H
    have c6b0 : decide (0 < (t132.length : Int)) = true := decide_eq_true c6
    have c6b1 : decide (0 < t132.length) = true := decide_eq_true (by omega)
    clear c6
    have HC7 := Aside0.mk H
    clear H
    go_enter Try.func4, Try.ntmps4
    go_upto_block 0 with (first | ((with_reducible refine gate_dst (N := 3) rfl ?_); (try (refine gate_guard (by rfl) ?_; dsimp only)); refine box_event ?hg (N := 3) ?hd (cs := #[.int .i64 a0_0, .int .i64 a0_1, .int .i64 a0_2]) (t := 31) ?hr ?_; (case hd => rfl); (case hg => rfl); (case hr => first | (go_simp; done) | (go_simp; rfl)); intro gb127 hg w8 hbox hb; have n0_ := Aside0.mk (below_step (by repeat (first | (with_reducible first | exact HB.out | apply below_alloc | apply pw_below_drewN | apply below_drew1) | exact HB.out)) hb); have n1_ := Aside0.mk (hbox); have n2_ := Aside0.mk ((by rw [hg]; exact (below_size (by repeat (first | (with_reducible first | exact HB.out | apply below_alloc | apply pw_below_drewN | apply below_drew1) | exact HB.out))) : w.heap.size ≤ gb127)); have n3_ := Aside0.mk ((by rw [hg]; exact (below_size (by repeat (first | (with_reducible first | exact HB.out | apply below_alloc | apply pw_below_drewN | apply below_drew1) | exact HB.out))) : w.heap.size ≤ gb127)); clear HB; have HB := n0_; have BK127 := n1_; have GW127 := n2_; have GE127 := n3_; clear n0_ n1_ n2_ n3_; clear hb hbox hg) | ((with_reducible refine gate_callee (f := 15) rfl ?_); refine goesL_ (some 11) rfl rfl Try.func15 (by kernel_rfl) rfl #[] rfl (by (try simp only [List.map_toArray, List.map_cons, List.map_nil]); first | done | rfl | (simp only [List.length_drop, List.length_take]; rfl)) ?_; (with_reducible refine (horariumlaw10_awake.calls k  t128 _ A4.out).mono ?_); rintro e w9 ⟨rfl, hb⟩; refine ⟨_, rfl, ?_⟩; have n0_ := Aside0.mk (blk_below (g := gb127) (o := .cells #[.int .i64 a0_0, .int .i64 a0_1, .int .i64 a0_2] 31 (0, 0)) (by (with_reducible repeat (first | refine blk_drewN ?_ _ | refine blk_drew ?_ | refine blk_alloc ?_ _)); exact BK127.out) hb); have n1_ := Aside0.mk (below_step (by repeat (first | (with_reducible first | exact HB.out | apply below_alloc | apply pw_below_drewN | apply below_drew1 | refine below_set ?_ GE127.out) | exact HB.out)) hb); clear BK127; clear HB; have BK127 := n0_; have HB := n1_; clear n0_ n1_; (try clear hb); (try clear hb2); (try clear hk); (try clear hi); have hcz10_0 : w9.cell? ⟨gb127, 0, none⟩ = some (.int .i64 a0_0) := (blk_cell BK127.out 0).trans rfl; have hcz10_1 : w9.cell? ⟨gb127, 1, none⟩ = some (.int .i64 a0_1) := (blk_cell BK127.out 1).trans rfl; have hcz10_2 : w9.cell? ⟨gb127, 2, none⟩ = some (.int .i64 a0_2) := (blk_cell BK127.out 2).trans rfl; have hfz10_0 := blk_frozen BK127.out 0; have hfz10_1 := blk_frozen BK127.out 1; have hfz10_2 := blk_frozen BK127.out 2) | ((with_reducible refine gate_dst (N := 13) rfl ?_); (try (refine gate_guard (by rfl) ?_; dsimp only)); refine Kd.R_lit k31 _ 31 ?hg (N := 13) ?hd (xs := ([(⟨a0_0, a0_1, a0_2⟩ : S31)] : List (S31))) (inner := [.int .i64 a0_0, .int .i64 a0_1, .int .i64 a0_2]) (ok := fun _ => True) (okp := fun _ => True) ?hr ?hp (fun _ hk => hk) trivial (Below.refl _ _) (Nat.le_refl _) (by simp) ?_; (case hd => rfl); (case hg => rfl); (case hr => first | (go_simp; done) | (go_simp; rfl)); (case hp => exact (Reps.c3 (show Kd.M k31 _ _ _ (⟨a0_0, a0_1, a0_2⟩ : S31) [.int .i64 a0_0, .int .i64 a0_1, .int .i64 a0_2] from (k31_mkM _ _ _ (⟨a0_0, a0_1, a0_2⟩ : S31) )) (Reps.none _ _))); intro v130 w11 ho12 hb hg_ hnew_; clear hg_ hnew_; (first | rw [← Ny129.out] at ho12 | (simp only [Int.reduceToNat] at ho12; rw [← Ny129.out] at ho12)); have n0_ := Aside0.mk (Kd.R_lower (Kd.R_newB ho12 (g := gb127) (o := .cells #[.int .i64 a0_0, .int .i64 a0_1, .int .i64 a0_2] 31 (0, 0)) (by (with_reducible repeat (first | refine blk_drewN ?_ _ | refine blk_drew ?_ | refine blk_alloc ?_ _)); exact BK127.out)) (below_size (by repeat (first | (with_reducible first | exact HB.out | apply below_alloc | apply pw_below_drewN | apply below_drew1 | refine below_set ?_ GE127.out) | exact HB.out)))); have n1_ := Aside0.mk (blk_below (g := gb127) (o := .cells #[.int .i64 a0_0, .int .i64 a0_1, .int .i64 a0_2] 31 (0, 0)) (by (with_reducible repeat (first | refine blk_drewN ?_ _ | refine blk_drew ?_ | refine blk_alloc ?_ _)); exact BK127.out) hb); have n2_ := Aside0.mk (below_step (by repeat (first | (with_reducible first | exact HB.out | apply below_alloc | apply pw_below_drewN | apply below_drew1 | refine below_set ?_ GE127.out) | exact HB.out)) hb); clear BK127; clear HB; have HO131 := n0_; have BK127 := n1_; have HB := n2_; clear n0_ n1_ n2_; clear hb ho12; obtain ⟨Ao13, co13, eo13⟩ := Kd.R_slice HO131.out; subst eo13) | ((with_reducible refine gate_callee (f := 16) rfl ?_); refine goesL_ (some 14) rfl rfl Try.func16 (by kernel_rfl) rfl #[.slice Ao13 y129.length co13] rfl (by (try simp only [List.map_toArray, List.map_cons, List.map_nil]); first | done | rfl | (simp only [List.length_drop, List.length_take]; rfl)) ?_; (with_reducible refine (horariumlaw10_made.calls k _ _ y129 t132 _ ?side1 ?side2 A5.out).mono ?_); (case side1 => repeat (first | exact (Kd.R_reads' HO131.out).2.2 | (with_reducible refine Kd.C_alloc ?_ _) | (with_reducible refine Kd.C_drewN ?_ _) | (with_reducible refine Kd.C_drew ?_))); (case side2 => exact (Kd.R_reads' HO131.out).2.1); rintro e w14 ⟨v133, rfl, ho0, hb⟩; refine ⟨_, rfl, ?_⟩; have n0_ := Aside0.mk (Kd.R_below (by (with_reducible repeat (first | apply Kd.R_alloc | apply Kd.R_drewN | apply Kd.R_drew)); exact HO131.out) hb); have n1_ := Aside0.mk (Kd.R_lower ho0 (below_size (by repeat (first | (with_reducible first | exact HB.out | apply below_alloc | apply pw_below_drewN | apply below_drew1 | refine below_set ?_ GE127.out) | exact HB.out)))); have n2_ := Aside0.mk (blk_below (g := gb127) (o := .cells #[.int .i64 a0_0, .int .i64 a0_1, .int .i64 a0_2] 31 (0, 0)) (by (with_reducible repeat (first | refine blk_drewN ?_ _ | refine blk_drew ?_ | refine blk_alloc ?_ _)); exact BK127.out) hb); have n3_ := Aside0.mk (below_step (by repeat (first | (with_reducible first | exact HB.out | apply below_alloc | apply pw_below_drewN | apply below_drew1 | refine below_set ?_ GE127.out) | exact HB.out)) hb); clear HO131; clear BK127; clear HB; have HO131 := n0_; have HO134 := n1_; have BK127 := n2_; have HB := n3_; clear n0_ n1_ n2_ n3_; (try clear hb); (try clear hb2); (try clear hk); (try clear hi); (try clear ho0); obtain ⟨Ao15, co15, eo15⟩ := Kd.R_slice HO134.out; subst eo15; have p135 : 0 ≤ (0 : Int) := (by omega); have q135 : 0 < (t132.length : Int) := of_decide_eq_true (by first | (with_reducible assumption) | assumption); obtain ⟨ad135, e135, hx135_0, hx135_1, hx135_2, hx135_3, hx135_4⟩ := at_T28 (Kd.R_reads' HO134.out).2.2 0 p135 q135; cases e135; have qi135 : (0 < t132.length) = True := eq_true (by omega); (try rw [show ((0 : Int)).toNat = 0 from rfl] at hx135_0); (try rw [show 0 * 5 = 0 from rfl] at hx135_0); (try rw [Addr.add_zero'] at hx135_0); (try rw [show ((0 : Int)).toNat = 0 from rfl] at hx135_1); (try rw [show 0 * 5 = 0 from rfl] at hx135_1); (try rw [Addr.add_zero'] at hx135_1); (try rw [show ((0 : Int)).toNat = 0 from rfl] at hx135_2); (try rw [show 0 * 5 = 0 from rfl] at hx135_2); (try rw [Addr.add_zero'] at hx135_2); (try rw [show ((0 : Int)).toNat = 0 from rfl] at hx135_3); (try rw [show 0 * 5 = 0 from rfl] at hx135_3); (try rw [Addr.add_zero'] at hx135_3); (try rw [show ((0 : Int)).toNat = 0 from rfl] at hx135_4); (try rw [show 0 * 5 = 0 from rfl] at hx135_4); (try rw [Addr.add_zero'] at hx135_4); replace p135 := eq_true p135; replace q135 := eq_true q135) | ((with_reducible refine gate_dst (N := 8) rfl ?_); (try (refine gate_guard (by rfl) ?_; dsimp only)); refine box_event ?hg (N := 8) ?hd (cs := #[.int .i64 0, .int .i64 0, .int .i64 0, .int .i64 0, .int .i64 0]) (t := 28) ?hr ?_; (case hd => rfl); (case hg => rfl); (case hr => first | (go_simp; done) | (go_simp; rfl)); intro gb136 hg w16 hbox hb; have n0_ := Aside0.mk (Kd.R_below (by (with_reducible repeat (first | apply Kd.R_alloc | apply Kd.R_drewN | apply Kd.R_drew)); exact HO131.out) hb); have n1_ := Aside0.mk (Kd.R_below (Kd.R_elderB (by (with_reducible repeat (first | apply Kd.R_alloc | apply Kd.R_drewN | apply Kd.R_drew)); exact HO134.out) gb136 (Nat.le_of_eq hg.symm)) hb); have n2_ := Aside0.mk (blk_below (g := gb127) (o := .cells #[.int .i64 a0_0, .int .i64 a0_1, .int .i64 a0_2] 31 (0, 0)) (by (with_reducible repeat (first | refine blk_drewN ?_ _ | refine blk_drew ?_ | refine blk_alloc ?_ _)); exact BK127.out) hb); have n3_ := Aside0.mk (below_step (by repeat (first | (with_reducible first | exact HB.out | apply below_alloc | apply pw_below_drewN | apply below_drew1 | refine below_set ?_ GE127.out) | exact HB.out)) hb); have n4_ := Aside0.mk (hbox); have n5_ := Aside0.mk ((by rw [hg]; exact (below_size (by repeat (first | (with_reducible first | exact HB.out | apply below_alloc | apply pw_below_drewN | apply below_drew1 | refine below_set ?_ GE127.out) | exact HB.out))) : w.heap.size ≤ gb136)); have n6_ := Aside0.mk ((by rw [hg]; exact (below_size (by repeat (first | (with_reducible first | exact HB.out | apply below_alloc | apply pw_below_drewN | apply below_drew1 | refine below_set ?_ GE127.out) | exact HB.out))) : w.heap.size ≤ gb136)); have n7_ := Aside0.mk ((by rw [hg]; exact Nat.ne_of_lt (blk_lt (g := gb127) (o := .cells #[.int .i64 a0_0, .int .i64 a0_1, .int .i64 a0_2] 31 (0, 0)) (by (with_reducible repeat (first | refine blk_drewN ?_ _ | refine blk_drew ?_ | refine blk_alloc ?_ _)); exact BK127.out)) : gb127 ≠ gb136)); have n8_ := Aside0.mk ((by rw [hg]; exact Nat.ne_of_gt (blk_lt (g := gb127) (o := .cells #[.int .i64 a0_0, .int .i64 a0_1, .int .i64 a0_2] 31 (0, 0)) (by (with_reducible repeat (first | refine blk_drewN ?_ _ | refine blk_drew ?_ | refine blk_alloc ?_ _)); exact BK127.out)) : gb136 ≠ gb127)); clear HO131; clear HO134; clear BK127; clear HB; have HO131 := n0_; have HO134 := n1_; have BK127 := n2_; have HB := n3_; have BK136 := n4_; have GW136 := n5_; have GE136 := n6_; have NB127_136 := n7_; have NB136_127 := n8_; clear n0_ n1_ n2_ n3_ n4_ n5_ n6_ n7_ n8_; clear hb hbox hg; have hnb17 := NB136_127.out; have hnc17 := NB127_136.out; have hcz18_0 : w16.cell? ⟨gb136, 0, none⟩ = some (.int .i64 0) := (blk_cell BK136.out 0).trans rfl; have hcz18_1 : w16.cell? ⟨gb136, 1, none⟩ = some (.int .i64 0) := (blk_cell BK136.out 1).trans rfl; have hcz18_2 : w16.cell? ⟨gb136, 2, none⟩ = some (.int .i64 0) := (blk_cell BK136.out 2).trans rfl; have hcz18_3 : w16.cell? ⟨gb136, 3, none⟩ = some (.int .i64 0) := (blk_cell BK136.out 3).trans rfl; have hcz18_4 : w16.cell? ⟨gb136, 4, none⟩ = some (.int .i64 0) := (blk_cell BK136.out 4).trans rfl; have hfz18_0 := blk_frozen BK136.out 0; have hfz18_1 := blk_frozen BK136.out 1; have hfz18_2 := blk_frozen BK136.out 2; have hfz18_3 := blk_frozen BK136.out 3; have hfz18_4 := blk_frozen BK136.out 4) | ((with_reducible refine gate_dst (N := 10) rfl ?_); (try (refine gate_guard (by rfl) ?_; dsimp only)); refine box_event ?hg (N := 10) ?hd (cs := #[.int .i64 0, .int .i64 0, .int .i64 0, .int .i64 0, .int .i64 0]) (t := 28) ?hr ?_; (case hd => rfl); (case hg => rfl); (case hr => first | (go_simp; done) | (go_simp; rfl)); intro gb137 hg w19 hbox hb; have n0_ := Aside0.mk (Kd.R_below (by (with_reducible repeat (first | apply Kd.R_alloc | apply Kd.R_drewN | apply Kd.R_drew)); exact (Kd.R_mono (Kd.R_far (p := ⟨gb136, 4, none⟩) (Kd.R_far (p := ⟨gb136, 3, none⟩) (Kd.R_far (p := ⟨gb136, 2, none⟩) (Kd.R_far (p := ⟨gb136, 1, none⟩) (Kd.R_far (p := ⟨gb136, 0, none⟩) (Kd.R_types HO131.out BK136.out (by decide)) (fun _ hk => hk.2) (.int .i64 ((rd_T28 t132 0).f0))) (fun _ hk => hk.2) (.int .i64 ((rd_T28 t132 0).f1))) (fun _ hk => hk.2) (.int .i64 ((rd_T28 t132 0).f2))) (fun _ hk => hk.2) (.int .i64 ((rd_T28 t132 0).f3))) (fun _ hk => hk.2) (.int .i64 ((rd_T28 t132 0).f4))) (fun _ h_ => h_.1))) hb); have n1_ := Aside0.mk (Kd.R_below (Kd.R_elderB (by (with_reducible repeat (first | apply Kd.R_alloc | apply Kd.R_drewN | apply Kd.R_drew)); exact (Kd.R_mono (Kd.R_far (p := ⟨gb136, 4, none⟩) (Kd.R_far (p := ⟨gb136, 3, none⟩) (Kd.R_far (p := ⟨gb136, 2, none⟩) (Kd.R_far (p := ⟨gb136, 1, none⟩) (Kd.R_far (p := ⟨gb136, 0, none⟩) (Kd.R_mono HO134.out (fun k_ hk => (⟨hk, hk.2⟩ : _ ∧ k_ ≠ gb136))) (fun _ hk => hk.2) (.int .i64 ((rd_T28 t132 0).f0))) (fun _ hk => hk.2) (.int .i64 ((rd_T28 t132 0).f1))) (fun _ hk => hk.2) (.int .i64 ((rd_T28 t132 0).f2))) (fun _ hk => hk.2) (.int .i64 ((rd_T28 t132 0).f3))) (fun _ hk => hk.2) (.int .i64 ((rd_T28 t132 0).f4))) (fun _ h_ => h_.1))) gb137 (Nat.le_of_eq hg.symm)) hb); have n2_ := Aside0.mk (blk_below (g := gb127) (o := .cells #[.int .i64 a0_0, .int .i64 a0_1, .int .i64 a0_2] 31 (0, 0)) (by (with_reducible repeat (first | refine blk_drewN ?_ _ | refine blk_drew ?_ | refine blk_alloc ?_ _)); refine blk_far ?_ NB127_136.out _; (with_reducible repeat (first | refine blk_drewN ?_ _ | refine blk_drew ?_ | refine blk_alloc ?_ _)); refine blk_far ?_ NB127_136.out _; (with_reducible repeat (first | refine blk_drewN ?_ _ | refine blk_drew ?_ | refine blk_alloc ?_ _)); refine blk_far ?_ NB127_136.out _; (with_reducible repeat (first | refine blk_drewN ?_ _ | refine blk_drew ?_ | refine blk_alloc ?_ _)); refine blk_far ?_ NB127_136.out _; (with_reducible repeat (first | refine blk_drewN ?_ _ | refine blk_drew ?_ | refine blk_alloc ?_ _)); refine blk_far ?_ NB127_136.out _; (with_reducible repeat (first | refine blk_drewN ?_ _ | refine blk_drew ?_ | refine blk_alloc ?_ _)); exact BK127.out) hb); have n3_ := Aside0.mk (blk_below (g := gb136) (o := .cells #[.int .i64 ((rd_T28 t132 0).f0), .int .i64 ((rd_T28 t132 0).f1), .int .i64 ((rd_T28 t132 0).f2), .int .i64 ((rd_T28 t132 0).f3), .int .i64 ((rd_T28 t132 0).f4)] 28 (0, 0)) (by (with_reducible repeat (first | refine blk_drewN ?_ _ | refine blk_drew ?_ | refine blk_alloc ?_ _)); refine blk_put (cs := #[.int .i64 ((rd_T28 t132 0).f0), .int .i64 ((rd_T28 t132 0).f1), .int .i64 ((rd_T28 t132 0).f2), .int .i64 ((rd_T28 t132 0).f3), .int .i64 0]) ?_ 4 _ rfl; (with_reducible repeat (first | refine blk_drewN ?_ _ | refine blk_drew ?_ | refine blk_alloc ?_ _)); refine blk_put (cs := #[.int .i64 ((rd_T28 t132 0).f0), .int .i64 ((rd_T28 t132 0).f1), .int .i64 ((rd_T28 t132 0).f2), .int .i64 0, .int .i64 0]) ?_ 3 _ rfl; (with_reducible repeat (first | refine blk_drewN ?_ _ | refine blk_drew ?_ | refine blk_alloc ?_ _)); refine blk_put (cs := #[.int .i64 ((rd_T28 t132 0).f0), .int .i64 ((rd_T28 t132 0).f1), .int .i64 0, .int .i64 0, .int .i64 0]) ?_ 2 _ rfl; (with_reducible repeat (first | refine blk_drewN ?_ _ | refine blk_drew ?_ | refine blk_alloc ?_ _)); refine blk_put (cs := #[.int .i64 ((rd_T28 t132 0).f0), .int .i64 0, .int .i64 0, .int .i64 0, .int .i64 0]) ?_ 1 _ rfl; (with_reducible repeat (first | refine blk_drewN ?_ _ | refine blk_drew ?_ | refine blk_alloc ?_ _)); refine blk_put (cs := #[.int .i64 0, .int .i64 0, .int .i64 0, .int .i64 0, .int .i64 0]) ?_ 0 _ rfl; (with_reducible repeat (first | refine blk_drewN ?_ _ | refine blk_drew ?_ | refine blk_alloc ?_ _)); exact BK136.out) hb); have n4_ := Aside0.mk (below_step (by repeat (first | (with_reducible first | exact HB.out | apply below_alloc | apply pw_below_drewN | apply below_drew1 | refine below_set ?_ GE127.out | refine below_set ?_ GE136.out) | exact HB.out)) hb); have n5_ := Aside0.mk (hbox); have n6_ := Aside0.mk ((by rw [hg]; exact (below_size (by repeat (first | (with_reducible first | exact HB.out | apply below_alloc | apply pw_below_drewN | apply below_drew1 | refine below_set ?_ GE127.out | refine below_set ?_ GE136.out) | exact HB.out))) : w.heap.size ≤ gb137)); have n7_ := Aside0.mk ((by rw [hg]; exact (below_size (by repeat (first | (with_reducible first | exact HB.out | apply below_alloc | apply pw_below_drewN | apply below_drew1 | refine below_set ?_ GE127.out | refine below_set ?_ GE136.out) | exact HB.out))) : w.heap.size ≤ gb137)); have n8_ := Aside0.mk ((by rw [hg]; exact Nat.ne_of_lt (blk_lt (g := gb127) (o := .cells #[.int .i64 a0_0, .int .i64 a0_1, .int .i64 a0_2] 31 (0, 0)) (by (with_reducible repeat (first | refine blk_drewN ?_ _ | refine blk_drew ?_ | refine blk_alloc ?_ _)); refine blk_far ?_ NB127_136.out _; (with_reducible repeat (first | refine blk_drewN ?_ _ | refine blk_drew ?_ | refine blk_alloc ?_ _)); refine blk_far ?_ NB127_136.out _; (with_reducible repeat (first | refine blk_drewN ?_ _ | refine blk_drew ?_ | refine blk_alloc ?_ _)); refine blk_far ?_ NB127_136.out _; (with_reducible repeat (first | refine blk_drewN ?_ _ | refine blk_drew ?_ | refine blk_alloc ?_ _)); refine blk_far ?_ NB127_136.out _; (with_reducible repeat (first | refine blk_drewN ?_ _ | refine blk_drew ?_ | refine blk_alloc ?_ _)); refine blk_far ?_ NB127_136.out _; (with_reducible repeat (first | refine blk_drewN ?_ _ | refine blk_drew ?_ | refine blk_alloc ?_ _)); exact BK127.out)) : gb127 ≠ gb137)); have n9_ := Aside0.mk ((by rw [hg]; exact Nat.ne_of_gt (blk_lt (g := gb127) (o := .cells #[.int .i64 a0_0, .int .i64 a0_1, .int .i64 a0_2] 31 (0, 0)) (by (with_reducible repeat (first | refine blk_drewN ?_ _ | refine blk_drew ?_ | refine blk_alloc ?_ _)); refine blk_far ?_ NB127_136.out _; (with_reducible repeat (first | refine blk_drewN ?_ _ | refine blk_drew ?_ | refine blk_alloc ?_ _)); refine blk_far ?_ NB127_136.out _; (with_reducible repeat (first | refine blk_drewN ?_ _ | refine blk_drew ?_ | refine blk_alloc ?_ _)); refine blk_far ?_ NB127_136.out _; (with_reducible repeat (first | refine blk_drewN ?_ _ | refine blk_drew ?_ | refine blk_alloc ?_ _)); refine blk_far ?_ NB127_136.out _; (with_reducible repeat (first | refine blk_drewN ?_ _ | refine blk_drew ?_ | refine blk_alloc ?_ _)); refine blk_far ?_ NB127_136.out _; (with_reducible repeat (first | refine blk_drewN ?_ _ | refine blk_drew ?_ | refine blk_alloc ?_ _)); exact BK127.out)) : gb137 ≠ gb127)); have n10_ := Aside0.mk ((by rw [hg]; exact Nat.ne_of_lt (blk_lt (g := gb136) (o := .cells #[.int .i64 ((rd_T28 t132 0).f0), .int .i64 ((rd_T28 t132 0).f1), .int .i64 ((rd_T28 t132 0).f2), .int .i64 ((rd_T28 t132 0).f3), .int .i64 ((rd_T28 t132 0).f4)] 28 (0, 0)) (by (with_reducible repeat (first | refine blk_drewN ?_ _ | refine blk_drew ?_ | refine blk_alloc ?_ _)); refine blk_put (cs := #[.int .i64 ((rd_T28 t132 0).f0), .int .i64 ((rd_T28 t132 0).f1), .int .i64 ((rd_T28 t132 0).f2), .int .i64 ((rd_T28 t132 0).f3), .int .i64 0]) ?_ 4 _ rfl; (with_reducible repeat (first | refine blk_drewN ?_ _ | refine blk_drew ?_ | refine blk_alloc ?_ _)); refine blk_put (cs := #[.int .i64 ((rd_T28 t132 0).f0), .int .i64 ((rd_T28 t132 0).f1), .int .i64 ((rd_T28 t132 0).f2), .int .i64 0, .int .i64 0]) ?_ 3 _ rfl; (with_reducible repeat (first | refine blk_drewN ?_ _ | refine blk_drew ?_ | refine blk_alloc ?_ _)); refine blk_put (cs := #[.int .i64 ((rd_T28 t132 0).f0), .int .i64 ((rd_T28 t132 0).f1), .int .i64 0, .int .i64 0, .int .i64 0]) ?_ 2 _ rfl; (with_reducible repeat (first | refine blk_drewN ?_ _ | refine blk_drew ?_ | refine blk_alloc ?_ _)); refine blk_put (cs := #[.int .i64 ((rd_T28 t132 0).f0), .int .i64 0, .int .i64 0, .int .i64 0, .int .i64 0]) ?_ 1 _ rfl; (with_reducible repeat (first | refine blk_drewN ?_ _ | refine blk_drew ?_ | refine blk_alloc ?_ _)); refine blk_put (cs := #[.int .i64 0, .int .i64 0, .int .i64 0, .int .i64 0, .int .i64 0]) ?_ 0 _ rfl; (with_reducible repeat (first | refine blk_drewN ?_ _ | refine blk_drew ?_ | refine blk_alloc ?_ _)); exact BK136.out)) : gb136 ≠ gb137)); have n11_ := Aside0.mk ((by rw [hg]; exact Nat.ne_of_gt (blk_lt (g := gb136) (o := .cells #[.int .i64 ((rd_T28 t132 0).f0), .int .i64 ((rd_T28 t132 0).f1), .int .i64 ((rd_T28 t132 0).f2), .int .i64 ((rd_T28 t132 0).f3), .int .i64 ((rd_T28 t132 0).f4)] 28 (0, 0)) (by (with_reducible repeat (first | refine blk_drewN ?_ _ | refine blk_drew ?_ | refine blk_alloc ?_ _)); refine blk_put (cs := #[.int .i64 ((rd_T28 t132 0).f0), .int .i64 ((rd_T28 t132 0).f1), .int .i64 ((rd_T28 t132 0).f2), .int .i64 ((rd_T28 t132 0).f3), .int .i64 0]) ?_ 4 _ rfl; (with_reducible repeat (first | refine blk_drewN ?_ _ | refine blk_drew ?_ | refine blk_alloc ?_ _)); refine blk_put (cs := #[.int .i64 ((rd_T28 t132 0).f0), .int .i64 ((rd_T28 t132 0).f1), .int .i64 ((rd_T28 t132 0).f2), .int .i64 0, .int .i64 0]) ?_ 3 _ rfl; (with_reducible repeat (first | refine blk_drewN ?_ _ | refine blk_drew ?_ | refine blk_alloc ?_ _)); refine blk_put (cs := #[.int .i64 ((rd_T28 t132 0).f0), .int .i64 ((rd_T28 t132 0).f1), .int .i64 0, .int .i64 0, .int .i64 0]) ?_ 2 _ rfl; (with_reducible repeat (first | refine blk_drewN ?_ _ | refine blk_drew ?_ | refine blk_alloc ?_ _)); refine blk_put (cs := #[.int .i64 ((rd_T28 t132 0).f0), .int .i64 0, .int .i64 0, .int .i64 0, .int .i64 0]) ?_ 1 _ rfl; (with_reducible repeat (first | refine blk_drewN ?_ _ | refine blk_drew ?_ | refine blk_alloc ?_ _)); refine blk_put (cs := #[.int .i64 0, .int .i64 0, .int .i64 0, .int .i64 0, .int .i64 0]) ?_ 0 _ rfl; (with_reducible repeat (first | refine blk_drewN ?_ _ | refine blk_drew ?_ | refine blk_alloc ?_ _)); exact BK136.out)) : gb137 ≠ gb136)); clear HO131; clear HO134; clear BK127; clear BK136; clear HB; have HO131 := n0_; have HO134 := n1_; have BK127 := n2_; have BK136 := n3_; have HB := n4_; have BK137 := n5_; have GW137 := n6_; have GE137 := n7_; have NB127_137 := n8_; have NB137_127 := n9_; have NB136_137 := n10_; have NB137_136 := n11_; clear n0_ n1_ n2_ n3_ n4_ n5_ n6_ n7_ n8_ n9_ n10_ n11_; clear hb hbox hg; have hnb20 := NB137_127.out; have hnc20 := NB127_137.out; have hnb21 := NB137_136.out; have hnc21 := NB136_137.out; have hcz22_0 : w19.cell? ⟨gb137, 0, none⟩ = some (.int .i64 0) := (blk_cell BK137.out 0).trans rfl; have hcz22_1 : w19.cell? ⟨gb137, 1, none⟩ = some (.int .i64 0) := (blk_cell BK137.out 1).trans rfl; have hcz22_2 : w19.cell? ⟨gb137, 2, none⟩ = some (.int .i64 0) := (blk_cell BK137.out 2).trans rfl; have hcz22_3 : w19.cell? ⟨gb137, 3, none⟩ = some (.int .i64 0) := (blk_cell BK137.out 3).trans rfl; have hcz22_4 : w19.cell? ⟨gb137, 4, none⟩ = some (.int .i64 0) := (blk_cell BK137.out 4).trans rfl; have hfz22_0 := blk_frozen BK137.out 0; have hfz22_1 := blk_frozen BK137.out 1; have hfz22_2 := blk_frozen BK137.out 2; have hfz22_3 := blk_frozen BK137.out 3; have hfz22_4 := blk_frozen BK137.out 4))
    (try simp only [Act.put, List.setIfInBounds_toArray, List.set_cons_zero, List.set_cons_succ])
    go_cut [] (fun wc => ∃ (kq : Nat) (x138001_6 : Int) (x138002_6 : Int) (x138003_6 : Int), Aside0 (horariumlaw10_DemandMore.j0 kq t128 (Go.bits .and .i64 a2 1048575) ((rd_T28 t132 0).f0) ((rd_T28 t132 0).f1) ((rd_T28 t132 0).f2) ((rd_T28 t132 0).f3) ((rd_T28 t132 0).f4) ((rd_T28 t132 0).f0) x138001_6 x138002_6 x138003_6 ((rd_T28 t132 0).f4) = some r) ∧ Aside0 (kq ≤ k) ∧ Aside0 (wc.heap[gb127]? = some (.cells #[.int .i64 a0_0, .int .i64 a0_1, .int .i64 a0_2] 31 (0, 0))) ∧ Aside0 (wc.heap[gb136]? = some (.cells #[.int .i64 ((rd_T28 t132 0).f0), .int .i64 ((rd_T28 t132 0).f1), .int .i64 ((rd_T28 t132 0).f2), .int .i64 ((rd_T28 t132 0).f3), .int .i64 ((rd_T28 t132 0).f4)] 28 (0, 0))) ∧ Aside0 (wc.heap[gb137]? = some (.cells #[.int .i64 ((rd_T28 t132 0).f0), .int .i64 x138001_6, .int .i64 x138002_6, .int .i64 x138003_6, .int .i64 ((rd_T28 t132 0).f4)] 28 (0, 0))) ∧ Aside0 (Below w.heap.size w wc))
    case first =>
      have H := HC7.out
      clear HC7
      by_cases c23 : (Int.tmod (wrap64 ((Int.tmod a1 3) + 3)) 3) = 0
      · rw [if_pos c23] at H
        have c23b0 : ((Int.tmod (wrap64 ((Int.tmod a1 3) + 3)) 3) == 0) = true := beq_iff_eq.mpr c23
        have c23b1 : ((Int.tmod (wrap64 ((Int.tmod a1 3) + 3)) 3) != 0) = false := bne_eq_false_iff_eq.mpr c23
        clear c23
        (first | rw [c23b0] | (simp only [i64_w, i32_w]; rw [c23b0]) | skip)
        by_cases c24 : ((rd_T28 t132 0).f1) < ((rd_T28 t132 0).f2)
        · rw [if_pos c24] at H
          have c24b0 : decide (((rd_T28 t132 0).f1) < ((rd_T28 t132 0).f2)) = true := decide_eq_true c24
          clear c24
          have H' := Aside0.mk H
          clear H
          have hnb25 := NB137_127.out
          have hnc25 := NB127_137.out
          have hnb26 := NB137_136.out
          have hnc26 := NB136_137.out
          have hcz27_0 : w19.cell? ⟨gb137, 0, none⟩ = some (.int .i64 0) := (blk_cell BK137.out 0).trans rfl
          have hcz27_1 : w19.cell? ⟨gb137, 1, none⟩ = some (.int .i64 0) := (blk_cell BK137.out 1).trans rfl
          have hcz27_2 : w19.cell? ⟨gb137, 2, none⟩ = some (.int .i64 0) := (blk_cell BK137.out 2).trans rfl
          have hcz27_3 : w19.cell? ⟨gb137, 3, none⟩ = some (.int .i64 0) := (blk_cell BK137.out 3).trans rfl
          have hcz27_4 : w19.cell? ⟨gb137, 4, none⟩ = some (.int .i64 0) := (blk_cell BK137.out 4).trans rfl
          have hfz27_0 := blk_frozen BK137.out 0
          have hfz27_1 := blk_frozen BK137.out 1
          have hfz27_2 := blk_frozen BK137.out 2
          have hfz27_3 := blk_frozen BK137.out 3
          have hfz27_4 := blk_frozen BK137.out 4
          go_wp2
          go_meet
          case rel => exact ⟨_, (wrap64 (((rd_T28 t132 0).f1) + 1)), ((rd_T28 t132 0).f2), ((rd_T28 t132 0).f3), H', ⟨by first | omega | exact Nat.le_refl _⟩, ⟨by (with_reducible repeat (first | refine blk_drewN ?_ _ | refine blk_drew ?_ | refine blk_alloc ?_ _)); refine blk_far ?_ NB127_137.out _; (with_reducible repeat (first | refine blk_drewN ?_ _ | refine blk_drew ?_ | refine blk_alloc ?_ _)); refine blk_far ?_ NB127_137.out _; (with_reducible repeat (first | refine blk_drewN ?_ _ | refine blk_drew ?_ | refine blk_alloc ?_ _)); refine blk_far ?_ NB127_137.out _; (with_reducible repeat (first | refine blk_drewN ?_ _ | refine blk_drew ?_ | refine blk_alloc ?_ _)); refine blk_far ?_ NB127_137.out _; (with_reducible repeat (first | refine blk_drewN ?_ _ | refine blk_drew ?_ | refine blk_alloc ?_ _)); refine blk_far ?_ NB127_137.out _; (with_reducible repeat (first | refine blk_drewN ?_ _ | refine blk_drew ?_ | refine blk_alloc ?_ _)); refine blk_far ?_ NB127_137.out _; (with_reducible repeat (first | refine blk_drewN ?_ _ | refine blk_drew ?_ | refine blk_alloc ?_ _)); exact BK127.out⟩, ⟨by (with_reducible repeat (first | refine blk_drewN ?_ _ | refine blk_drew ?_ | refine blk_alloc ?_ _)); refine blk_far ?_ NB136_137.out _; (with_reducible repeat (first | refine blk_drewN ?_ _ | refine blk_drew ?_ | refine blk_alloc ?_ _)); refine blk_far ?_ NB136_137.out _; (with_reducible repeat (first | refine blk_drewN ?_ _ | refine blk_drew ?_ | refine blk_alloc ?_ _)); refine blk_far ?_ NB136_137.out _; (with_reducible repeat (first | refine blk_drewN ?_ _ | refine blk_drew ?_ | refine blk_alloc ?_ _)); refine blk_far ?_ NB136_137.out _; (with_reducible repeat (first | refine blk_drewN ?_ _ | refine blk_drew ?_ | refine blk_alloc ?_ _)); refine blk_far ?_ NB136_137.out _; (with_reducible repeat (first | refine blk_drewN ?_ _ | refine blk_drew ?_ | refine blk_alloc ?_ _)); refine blk_far ?_ NB136_137.out _; (with_reducible repeat (first | refine blk_drewN ?_ _ | refine blk_drew ?_ | refine blk_alloc ?_ _)); exact BK136.out⟩, ⟨by (with_reducible repeat (first | refine blk_drewN ?_ _ | refine blk_drew ?_ | refine blk_alloc ?_ _)); refine blk_put (cs := #[.int .i64 ((rd_T28 t132 0).f0), .int .i64 ((rd_T28 t132 0).f1), .int .i64 ((rd_T28 t132 0).f2), .int .i64 ((rd_T28 t132 0).f3), .int .i64 ((rd_T28 t132 0).f4)]) ?_ 1 _ rfl; (with_reducible repeat (first | refine blk_drewN ?_ _ | refine blk_drew ?_ | refine blk_alloc ?_ _)); refine blk_put (cs := #[.int .i64 ((rd_T28 t132 0).f0), .int .i64 ((rd_T28 t132 0).f1), .int .i64 ((rd_T28 t132 0).f2), .int .i64 ((rd_T28 t132 0).f3), .int .i64 0]) ?_ 4 _ rfl; (with_reducible repeat (first | refine blk_drewN ?_ _ | refine blk_drew ?_ | refine blk_alloc ?_ _)); refine blk_put (cs := #[.int .i64 ((rd_T28 t132 0).f0), .int .i64 ((rd_T28 t132 0).f1), .int .i64 ((rd_T28 t132 0).f2), .int .i64 0, .int .i64 0]) ?_ 3 _ rfl; (with_reducible repeat (first | refine blk_drewN ?_ _ | refine blk_drew ?_ | refine blk_alloc ?_ _)); refine blk_put (cs := #[.int .i64 ((rd_T28 t132 0).f0), .int .i64 ((rd_T28 t132 0).f1), .int .i64 0, .int .i64 0, .int .i64 0]) ?_ 2 _ rfl; (with_reducible repeat (first | refine blk_drewN ?_ _ | refine blk_drew ?_ | refine blk_alloc ?_ _)); refine blk_put (cs := #[.int .i64 ((rd_T28 t132 0).f0), .int .i64 0, .int .i64 0, .int .i64 0, .int .i64 0]) ?_ 1 _ rfl; (with_reducible repeat (first | refine blk_drewN ?_ _ | refine blk_drew ?_ | refine blk_alloc ?_ _)); refine blk_put (cs := #[.int .i64 0, .int .i64 0, .int .i64 0, .int .i64 0, .int .i64 0]) ?_ 0 _ rfl; (with_reducible repeat (first | refine blk_drewN ?_ _ | refine blk_drew ?_ | refine blk_alloc ?_ _)); exact BK137.out⟩, ⟨by repeat (first | (with_reducible first | exact HB.out | apply below_alloc | apply pw_below_drewN | apply below_drew1 | refine below_set ?_ GE127.out | refine below_set ?_ GE136.out | refine below_set ?_ GE137.out) | exact HB.out)⟩⟩
        · rw [if_neg c24] at H
          have c24b0 : decide (((rd_T28 t132 0).f1) < ((rd_T28 t132 0).f2)) = false := decide_eq_false c24
          clear c24
          have H' := Aside0.mk H
          clear H
          have hnb28 := NB137_127.out
          have hnc28 := NB127_137.out
          have hnb29 := NB137_136.out
          have hnc29 := NB136_137.out
          have hcz30_0 : w19.cell? ⟨gb137, 0, none⟩ = some (.int .i64 0) := (blk_cell BK137.out 0).trans rfl
          have hcz30_1 : w19.cell? ⟨gb137, 1, none⟩ = some (.int .i64 0) := (blk_cell BK137.out 1).trans rfl
          have hcz30_2 : w19.cell? ⟨gb137, 2, none⟩ = some (.int .i64 0) := (blk_cell BK137.out 2).trans rfl
          have hcz30_3 : w19.cell? ⟨gb137, 3, none⟩ = some (.int .i64 0) := (blk_cell BK137.out 3).trans rfl
          have hcz30_4 : w19.cell? ⟨gb137, 4, none⟩ = some (.int .i64 0) := (blk_cell BK137.out 4).trans rfl
          have hfz30_0 := blk_frozen BK137.out 0
          have hfz30_1 := blk_frozen BK137.out 1
          have hfz30_2 := blk_frozen BK137.out 2
          have hfz30_3 := blk_frozen BK137.out 3
          have hfz30_4 := blk_frozen BK137.out 4
          go_wp2
          go_meet
          case rel => exact ⟨_, ((rd_T28 t132 0).f1), ((rd_T28 t132 0).f2), ((rd_T28 t132 0).f3), H', ⟨by first | omega | exact Nat.le_refl _⟩, ⟨by (with_reducible repeat (first | refine blk_drewN ?_ _ | refine blk_drew ?_ | refine blk_alloc ?_ _)); refine blk_far ?_ NB127_137.out _; (with_reducible repeat (first | refine blk_drewN ?_ _ | refine blk_drew ?_ | refine blk_alloc ?_ _)); refine blk_far ?_ NB127_137.out _; (with_reducible repeat (first | refine blk_drewN ?_ _ | refine blk_drew ?_ | refine blk_alloc ?_ _)); refine blk_far ?_ NB127_137.out _; (with_reducible repeat (first | refine blk_drewN ?_ _ | refine blk_drew ?_ | refine blk_alloc ?_ _)); refine blk_far ?_ NB127_137.out _; (with_reducible repeat (first | refine blk_drewN ?_ _ | refine blk_drew ?_ | refine blk_alloc ?_ _)); refine blk_far ?_ NB127_137.out _; (with_reducible repeat (first | refine blk_drewN ?_ _ | refine blk_drew ?_ | refine blk_alloc ?_ _)); exact BK127.out⟩, ⟨by (with_reducible repeat (first | refine blk_drewN ?_ _ | refine blk_drew ?_ | refine blk_alloc ?_ _)); refine blk_far ?_ NB136_137.out _; (with_reducible repeat (first | refine blk_drewN ?_ _ | refine blk_drew ?_ | refine blk_alloc ?_ _)); refine blk_far ?_ NB136_137.out _; (with_reducible repeat (first | refine blk_drewN ?_ _ | refine blk_drew ?_ | refine blk_alloc ?_ _)); refine blk_far ?_ NB136_137.out _; (with_reducible repeat (first | refine blk_drewN ?_ _ | refine blk_drew ?_ | refine blk_alloc ?_ _)); refine blk_far ?_ NB136_137.out _; (with_reducible repeat (first | refine blk_drewN ?_ _ | refine blk_drew ?_ | refine blk_alloc ?_ _)); refine blk_far ?_ NB136_137.out _; (with_reducible repeat (first | refine blk_drewN ?_ _ | refine blk_drew ?_ | refine blk_alloc ?_ _)); exact BK136.out⟩, ⟨by (with_reducible repeat (first | refine blk_drewN ?_ _ | refine blk_drew ?_ | refine blk_alloc ?_ _)); refine blk_put (cs := #[.int .i64 ((rd_T28 t132 0).f0), .int .i64 ((rd_T28 t132 0).f1), .int .i64 ((rd_T28 t132 0).f2), .int .i64 ((rd_T28 t132 0).f3), .int .i64 0]) ?_ 4 _ rfl; (with_reducible repeat (first | refine blk_drewN ?_ _ | refine blk_drew ?_ | refine blk_alloc ?_ _)); refine blk_put (cs := #[.int .i64 ((rd_T28 t132 0).f0), .int .i64 ((rd_T28 t132 0).f1), .int .i64 ((rd_T28 t132 0).f2), .int .i64 0, .int .i64 0]) ?_ 3 _ rfl; (with_reducible repeat (first | refine blk_drewN ?_ _ | refine blk_drew ?_ | refine blk_alloc ?_ _)); refine blk_put (cs := #[.int .i64 ((rd_T28 t132 0).f0), .int .i64 ((rd_T28 t132 0).f1), .int .i64 0, .int .i64 0, .int .i64 0]) ?_ 2 _ rfl; (with_reducible repeat (first | refine blk_drewN ?_ _ | refine blk_drew ?_ | refine blk_alloc ?_ _)); refine blk_put (cs := #[.int .i64 ((rd_T28 t132 0).f0), .int .i64 0, .int .i64 0, .int .i64 0, .int .i64 0]) ?_ 1 _ rfl; (with_reducible repeat (first | refine blk_drewN ?_ _ | refine blk_drew ?_ | refine blk_alloc ?_ _)); refine blk_put (cs := #[.int .i64 0, .int .i64 0, .int .i64 0, .int .i64 0, .int .i64 0]) ?_ 0 _ rfl; (with_reducible repeat (first | refine blk_drewN ?_ _ | refine blk_drew ?_ | refine blk_alloc ?_ _)); exact BK137.out⟩, ⟨by repeat (first | (with_reducible first | exact HB.out | apply below_alloc | apply pw_below_drewN | apply below_drew1 | refine below_set ?_ GE127.out | refine below_set ?_ GE136.out | refine below_set ?_ GE137.out) | exact HB.out)⟩⟩
      · rw [if_neg c23] at H
        have c23b0 : ((Int.tmod (wrap64 ((Int.tmod a1 3) + 3)) 3) == 0) = false := beq_eq_false_iff_ne.mpr c23
        have c23b1 : ((Int.tmod (wrap64 ((Int.tmod a1 3) + 3)) 3) != 0) = true := bne_iff_ne.mpr c23
        (first | rw [c23b0] | (simp only [i64_w, i32_w]; rw [c23b0]) | skip)
        by_cases c31 : (Int.tmod (wrap64 ((Int.tmod a1 3) + 3)) 3) = 1
        · rw [if_pos c31] at H
          have c31b0 : ((Int.tmod (wrap64 ((Int.tmod a1 3) + 3)) 3) == 1) = true := beq_iff_eq.mpr c31
          have c31b1 : ((Int.tmod (wrap64 ((Int.tmod a1 3) + 3)) 3) != 1) = false := bne_eq_false_iff_eq.mpr c31
          clear c31
          by_cases c32 : ((rd_T28 t132 0).f2) > ((rd_T28 t132 0).f1)
          · rw [if_pos c32] at H
            have c32b0 : decide (((rd_T28 t132 0).f1) < ((rd_T28 t132 0).f2)) = true := decide_eq_true c32
            clear c32
            have H' := Aside0.mk H
            clear H
            have hnb33 := NB137_127.out
            have hnc33 := NB127_137.out
            have hnb34 := NB137_136.out
            have hnc34 := NB136_137.out
            have hcz35_0 : w19.cell? ⟨gb137, 0, none⟩ = some (.int .i64 0) := (blk_cell BK137.out 0).trans rfl
            have hcz35_1 : w19.cell? ⟨gb137, 1, none⟩ = some (.int .i64 0) := (blk_cell BK137.out 1).trans rfl
            have hcz35_2 : w19.cell? ⟨gb137, 2, none⟩ = some (.int .i64 0) := (blk_cell BK137.out 2).trans rfl
            have hcz35_3 : w19.cell? ⟨gb137, 3, none⟩ = some (.int .i64 0) := (blk_cell BK137.out 3).trans rfl
            have hcz35_4 : w19.cell? ⟨gb137, 4, none⟩ = some (.int .i64 0) := (blk_cell BK137.out 4).trans rfl
            have hfz35_0 := blk_frozen BK137.out 0
            have hfz35_1 := blk_frozen BK137.out 1
            have hfz35_2 := blk_frozen BK137.out 2
            have hfz35_3 := blk_frozen BK137.out 3
            have hfz35_4 := blk_frozen BK137.out 4
            go_wp2
            go_meet
            case rel => exact ⟨_, ((rd_T28 t132 0).f1), (wrap64 (((rd_T28 t132 0).f2) - 1)), ((rd_T28 t132 0).f3), H', ⟨by first | omega | exact Nat.le_refl _⟩, ⟨by (with_reducible repeat (first | refine blk_drewN ?_ _ | refine blk_drew ?_ | refine blk_alloc ?_ _)); refine blk_far ?_ NB127_137.out _; (with_reducible repeat (first | refine blk_drewN ?_ _ | refine blk_drew ?_ | refine blk_alloc ?_ _)); refine blk_far ?_ NB127_137.out _; (with_reducible repeat (first | refine blk_drewN ?_ _ | refine blk_drew ?_ | refine blk_alloc ?_ _)); refine blk_far ?_ NB127_137.out _; (with_reducible repeat (first | refine blk_drewN ?_ _ | refine blk_drew ?_ | refine blk_alloc ?_ _)); refine blk_far ?_ NB127_137.out _; (with_reducible repeat (first | refine blk_drewN ?_ _ | refine blk_drew ?_ | refine blk_alloc ?_ _)); refine blk_far ?_ NB127_137.out _; (with_reducible repeat (first | refine blk_drewN ?_ _ | refine blk_drew ?_ | refine blk_alloc ?_ _)); refine blk_far ?_ NB127_137.out _; (with_reducible repeat (first | refine blk_drewN ?_ _ | refine blk_drew ?_ | refine blk_alloc ?_ _)); exact BK127.out⟩, ⟨by (with_reducible repeat (first | refine blk_drewN ?_ _ | refine blk_drew ?_ | refine blk_alloc ?_ _)); refine blk_far ?_ NB136_137.out _; (with_reducible repeat (first | refine blk_drewN ?_ _ | refine blk_drew ?_ | refine blk_alloc ?_ _)); refine blk_far ?_ NB136_137.out _; (with_reducible repeat (first | refine blk_drewN ?_ _ | refine blk_drew ?_ | refine blk_alloc ?_ _)); refine blk_far ?_ NB136_137.out _; (with_reducible repeat (first | refine blk_drewN ?_ _ | refine blk_drew ?_ | refine blk_alloc ?_ _)); refine blk_far ?_ NB136_137.out _; (with_reducible repeat (first | refine blk_drewN ?_ _ | refine blk_drew ?_ | refine blk_alloc ?_ _)); refine blk_far ?_ NB136_137.out _; (with_reducible repeat (first | refine blk_drewN ?_ _ | refine blk_drew ?_ | refine blk_alloc ?_ _)); refine blk_far ?_ NB136_137.out _; (with_reducible repeat (first | refine blk_drewN ?_ _ | refine blk_drew ?_ | refine blk_alloc ?_ _)); exact BK136.out⟩, ⟨by (with_reducible repeat (first | refine blk_drewN ?_ _ | refine blk_drew ?_ | refine blk_alloc ?_ _)); refine blk_put (cs := #[.int .i64 ((rd_T28 t132 0).f0), .int .i64 ((rd_T28 t132 0).f1), .int .i64 ((rd_T28 t132 0).f2), .int .i64 ((rd_T28 t132 0).f3), .int .i64 ((rd_T28 t132 0).f4)]) ?_ 2 _ rfl; (with_reducible repeat (first | refine blk_drewN ?_ _ | refine blk_drew ?_ | refine blk_alloc ?_ _)); refine blk_put (cs := #[.int .i64 ((rd_T28 t132 0).f0), .int .i64 ((rd_T28 t132 0).f1), .int .i64 ((rd_T28 t132 0).f2), .int .i64 ((rd_T28 t132 0).f3), .int .i64 0]) ?_ 4 _ rfl; (with_reducible repeat (first | refine blk_drewN ?_ _ | refine blk_drew ?_ | refine blk_alloc ?_ _)); refine blk_put (cs := #[.int .i64 ((rd_T28 t132 0).f0), .int .i64 ((rd_T28 t132 0).f1), .int .i64 ((rd_T28 t132 0).f2), .int .i64 0, .int .i64 0]) ?_ 3 _ rfl; (with_reducible repeat (first | refine blk_drewN ?_ _ | refine blk_drew ?_ | refine blk_alloc ?_ _)); refine blk_put (cs := #[.int .i64 ((rd_T28 t132 0).f0), .int .i64 ((rd_T28 t132 0).f1), .int .i64 0, .int .i64 0, .int .i64 0]) ?_ 2 _ rfl; (with_reducible repeat (first | refine blk_drewN ?_ _ | refine blk_drew ?_ | refine blk_alloc ?_ _)); refine blk_put (cs := #[.int .i64 ((rd_T28 t132 0).f0), .int .i64 0, .int .i64 0, .int .i64 0, .int .i64 0]) ?_ 1 _ rfl; (with_reducible repeat (first | refine blk_drewN ?_ _ | refine blk_drew ?_ | refine blk_alloc ?_ _)); refine blk_put (cs := #[.int .i64 0, .int .i64 0, .int .i64 0, .int .i64 0, .int .i64 0]) ?_ 0 _ rfl; (with_reducible repeat (first | refine blk_drewN ?_ _ | refine blk_drew ?_ | refine blk_alloc ?_ _)); exact BK137.out⟩, ⟨by repeat (first | (with_reducible first | exact HB.out | apply below_alloc | apply pw_below_drewN | apply below_drew1 | refine below_set ?_ GE127.out | refine below_set ?_ GE136.out | refine below_set ?_ GE137.out) | exact HB.out)⟩⟩
          · rw [if_neg c32] at H
            have c32b0 : decide (((rd_T28 t132 0).f1) < ((rd_T28 t132 0).f2)) = false := decide_eq_false c32
            clear c32
            have H' := Aside0.mk H
            clear H
            have hnb36 := NB137_127.out
            have hnc36 := NB127_137.out
            have hnb37 := NB137_136.out
            have hnc37 := NB136_137.out
            have hcz38_0 : w19.cell? ⟨gb137, 0, none⟩ = some (.int .i64 0) := (blk_cell BK137.out 0).trans rfl
            have hcz38_1 : w19.cell? ⟨gb137, 1, none⟩ = some (.int .i64 0) := (blk_cell BK137.out 1).trans rfl
            have hcz38_2 : w19.cell? ⟨gb137, 2, none⟩ = some (.int .i64 0) := (blk_cell BK137.out 2).trans rfl
            have hcz38_3 : w19.cell? ⟨gb137, 3, none⟩ = some (.int .i64 0) := (blk_cell BK137.out 3).trans rfl
            have hcz38_4 : w19.cell? ⟨gb137, 4, none⟩ = some (.int .i64 0) := (blk_cell BK137.out 4).trans rfl
            have hfz38_0 := blk_frozen BK137.out 0
            have hfz38_1 := blk_frozen BK137.out 1
            have hfz38_2 := blk_frozen BK137.out 2
            have hfz38_3 := blk_frozen BK137.out 3
            have hfz38_4 := blk_frozen BK137.out 4
            go_wp2
            go_meet
            case rel => exact ⟨_, ((rd_T28 t132 0).f1), ((rd_T28 t132 0).f2), ((rd_T28 t132 0).f3), H', ⟨by first | omega | exact Nat.le_refl _⟩, ⟨by (with_reducible repeat (first | refine blk_drewN ?_ _ | refine blk_drew ?_ | refine blk_alloc ?_ _)); refine blk_far ?_ NB127_137.out _; (with_reducible repeat (first | refine blk_drewN ?_ _ | refine blk_drew ?_ | refine blk_alloc ?_ _)); refine blk_far ?_ NB127_137.out _; (with_reducible repeat (first | refine blk_drewN ?_ _ | refine blk_drew ?_ | refine blk_alloc ?_ _)); refine blk_far ?_ NB127_137.out _; (with_reducible repeat (first | refine blk_drewN ?_ _ | refine blk_drew ?_ | refine blk_alloc ?_ _)); refine blk_far ?_ NB127_137.out _; (with_reducible repeat (first | refine blk_drewN ?_ _ | refine blk_drew ?_ | refine blk_alloc ?_ _)); refine blk_far ?_ NB127_137.out _; (with_reducible repeat (first | refine blk_drewN ?_ _ | refine blk_drew ?_ | refine blk_alloc ?_ _)); exact BK127.out⟩, ⟨by (with_reducible repeat (first | refine blk_drewN ?_ _ | refine blk_drew ?_ | refine blk_alloc ?_ _)); refine blk_far ?_ NB136_137.out _; (with_reducible repeat (first | refine blk_drewN ?_ _ | refine blk_drew ?_ | refine blk_alloc ?_ _)); refine blk_far ?_ NB136_137.out _; (with_reducible repeat (first | refine blk_drewN ?_ _ | refine blk_drew ?_ | refine blk_alloc ?_ _)); refine blk_far ?_ NB136_137.out _; (with_reducible repeat (first | refine blk_drewN ?_ _ | refine blk_drew ?_ | refine blk_alloc ?_ _)); refine blk_far ?_ NB136_137.out _; (with_reducible repeat (first | refine blk_drewN ?_ _ | refine blk_drew ?_ | refine blk_alloc ?_ _)); refine blk_far ?_ NB136_137.out _; (with_reducible repeat (first | refine blk_drewN ?_ _ | refine blk_drew ?_ | refine blk_alloc ?_ _)); exact BK136.out⟩, ⟨by (with_reducible repeat (first | refine blk_drewN ?_ _ | refine blk_drew ?_ | refine blk_alloc ?_ _)); refine blk_put (cs := #[.int .i64 ((rd_T28 t132 0).f0), .int .i64 ((rd_T28 t132 0).f1), .int .i64 ((rd_T28 t132 0).f2), .int .i64 ((rd_T28 t132 0).f3), .int .i64 0]) ?_ 4 _ rfl; (with_reducible repeat (first | refine blk_drewN ?_ _ | refine blk_drew ?_ | refine blk_alloc ?_ _)); refine blk_put (cs := #[.int .i64 ((rd_T28 t132 0).f0), .int .i64 ((rd_T28 t132 0).f1), .int .i64 ((rd_T28 t132 0).f2), .int .i64 0, .int .i64 0]) ?_ 3 _ rfl; (with_reducible repeat (first | refine blk_drewN ?_ _ | refine blk_drew ?_ | refine blk_alloc ?_ _)); refine blk_put (cs := #[.int .i64 ((rd_T28 t132 0).f0), .int .i64 ((rd_T28 t132 0).f1), .int .i64 0, .int .i64 0, .int .i64 0]) ?_ 2 _ rfl; (with_reducible repeat (first | refine blk_drewN ?_ _ | refine blk_drew ?_ | refine blk_alloc ?_ _)); refine blk_put (cs := #[.int .i64 ((rd_T28 t132 0).f0), .int .i64 0, .int .i64 0, .int .i64 0, .int .i64 0]) ?_ 1 _ rfl; (with_reducible repeat (first | refine blk_drewN ?_ _ | refine blk_drew ?_ | refine blk_alloc ?_ _)); refine blk_put (cs := #[.int .i64 0, .int .i64 0, .int .i64 0, .int .i64 0, .int .i64 0]) ?_ 0 _ rfl; (with_reducible repeat (first | refine blk_drewN ?_ _ | refine blk_drew ?_ | refine blk_alloc ?_ _)); exact BK137.out⟩, ⟨by repeat (first | (with_reducible first | exact HB.out | apply below_alloc | apply pw_below_drewN | apply below_drew1 | refine below_set ?_ GE127.out | refine below_set ?_ GE136.out | refine below_set ?_ GE137.out) | exact HB.out)⟩⟩
        · rw [if_neg c31] at H
          have c31b0 : ((Int.tmod (wrap64 ((Int.tmod a1 3) + 3)) 3) == 1) = false := beq_eq_false_iff_ne.mpr c31
          have c31b1 : ((Int.tmod (wrap64 ((Int.tmod a1 3) + 3)) 3) != 1) = true := bne_iff_ne.mpr c31
          by_cases c39 : (Int.tmod (wrap64 ((Int.tmod a1 3) + 3)) 3) = 2
          · rw [if_pos c39] at H
            have c39b0 : ((Int.tmod (wrap64 ((Int.tmod a1 3) + 3)) 3) == 2) = true := beq_iff_eq.mpr c39
            have c39b1 : ((Int.tmod (wrap64 ((Int.tmod a1 3) + 3)) 3) != 2) = false := bne_eq_false_iff_eq.mpr c39
            clear c39
            by_cases c40 : ((rd_T28 t132 0).f3) > ((rd_T28 t132 0).f2)
            · rw [if_pos c40] at H
              have c40b0 : decide (((rd_T28 t132 0).f2) < ((rd_T28 t132 0).f3)) = true := decide_eq_true c40
              clear c40
              have H' := Aside0.mk H
              clear H
              have hnb41 := NB137_127.out
              have hnc41 := NB127_137.out
              have hnb42 := NB137_136.out
              have hnc42 := NB136_137.out
              have hcz43_0 : w19.cell? ⟨gb137, 0, none⟩ = some (.int .i64 0) := (blk_cell BK137.out 0).trans rfl
              have hcz43_1 : w19.cell? ⟨gb137, 1, none⟩ = some (.int .i64 0) := (blk_cell BK137.out 1).trans rfl
              have hcz43_2 : w19.cell? ⟨gb137, 2, none⟩ = some (.int .i64 0) := (blk_cell BK137.out 2).trans rfl
              have hcz43_3 : w19.cell? ⟨gb137, 3, none⟩ = some (.int .i64 0) := (blk_cell BK137.out 3).trans rfl
              have hcz43_4 : w19.cell? ⟨gb137, 4, none⟩ = some (.int .i64 0) := (blk_cell BK137.out 4).trans rfl
              have hfz43_0 := blk_frozen BK137.out 0
              have hfz43_1 := blk_frozen BK137.out 1
              have hfz43_2 := blk_frozen BK137.out 2
              have hfz43_3 := blk_frozen BK137.out 3
              have hfz43_4 := blk_frozen BK137.out 4
              go_wp2
              go_meet
              case rel => exact ⟨_, ((rd_T28 t132 0).f1), ((rd_T28 t132 0).f2), (wrap64 (((rd_T28 t132 0).f3) - 1)), H', ⟨by first | omega | exact Nat.le_refl _⟩, ⟨by (with_reducible repeat (first | refine blk_drewN ?_ _ | refine blk_drew ?_ | refine blk_alloc ?_ _)); refine blk_far ?_ NB127_137.out _; (with_reducible repeat (first | refine blk_drewN ?_ _ | refine blk_drew ?_ | refine blk_alloc ?_ _)); refine blk_far ?_ NB127_137.out _; (with_reducible repeat (first | refine blk_drewN ?_ _ | refine blk_drew ?_ | refine blk_alloc ?_ _)); refine blk_far ?_ NB127_137.out _; (with_reducible repeat (first | refine blk_drewN ?_ _ | refine blk_drew ?_ | refine blk_alloc ?_ _)); refine blk_far ?_ NB127_137.out _; (with_reducible repeat (first | refine blk_drewN ?_ _ | refine blk_drew ?_ | refine blk_alloc ?_ _)); refine blk_far ?_ NB127_137.out _; (with_reducible repeat (first | refine blk_drewN ?_ _ | refine blk_drew ?_ | refine blk_alloc ?_ _)); refine blk_far ?_ NB127_137.out _; (with_reducible repeat (first | refine blk_drewN ?_ _ | refine blk_drew ?_ | refine blk_alloc ?_ _)); exact BK127.out⟩, ⟨by (with_reducible repeat (first | refine blk_drewN ?_ _ | refine blk_drew ?_ | refine blk_alloc ?_ _)); refine blk_far ?_ NB136_137.out _; (with_reducible repeat (first | refine blk_drewN ?_ _ | refine blk_drew ?_ | refine blk_alloc ?_ _)); refine blk_far ?_ NB136_137.out _; (with_reducible repeat (first | refine blk_drewN ?_ _ | refine blk_drew ?_ | refine blk_alloc ?_ _)); refine blk_far ?_ NB136_137.out _; (with_reducible repeat (first | refine blk_drewN ?_ _ | refine blk_drew ?_ | refine blk_alloc ?_ _)); refine blk_far ?_ NB136_137.out _; (with_reducible repeat (first | refine blk_drewN ?_ _ | refine blk_drew ?_ | refine blk_alloc ?_ _)); refine blk_far ?_ NB136_137.out _; (with_reducible repeat (first | refine blk_drewN ?_ _ | refine blk_drew ?_ | refine blk_alloc ?_ _)); refine blk_far ?_ NB136_137.out _; (with_reducible repeat (first | refine blk_drewN ?_ _ | refine blk_drew ?_ | refine blk_alloc ?_ _)); exact BK136.out⟩, ⟨by (with_reducible repeat (first | refine blk_drewN ?_ _ | refine blk_drew ?_ | refine blk_alloc ?_ _)); refine blk_put (cs := #[.int .i64 ((rd_T28 t132 0).f0), .int .i64 ((rd_T28 t132 0).f1), .int .i64 ((rd_T28 t132 0).f2), .int .i64 ((rd_T28 t132 0).f3), .int .i64 ((rd_T28 t132 0).f4)]) ?_ 3 _ rfl; (with_reducible repeat (first | refine blk_drewN ?_ _ | refine blk_drew ?_ | refine blk_alloc ?_ _)); refine blk_put (cs := #[.int .i64 ((rd_T28 t132 0).f0), .int .i64 ((rd_T28 t132 0).f1), .int .i64 ((rd_T28 t132 0).f2), .int .i64 ((rd_T28 t132 0).f3), .int .i64 0]) ?_ 4 _ rfl; (with_reducible repeat (first | refine blk_drewN ?_ _ | refine blk_drew ?_ | refine blk_alloc ?_ _)); refine blk_put (cs := #[.int .i64 ((rd_T28 t132 0).f0), .int .i64 ((rd_T28 t132 0).f1), .int .i64 ((rd_T28 t132 0).f2), .int .i64 0, .int .i64 0]) ?_ 3 _ rfl; (with_reducible repeat (first | refine blk_drewN ?_ _ | refine blk_drew ?_ | refine blk_alloc ?_ _)); refine blk_put (cs := #[.int .i64 ((rd_T28 t132 0).f0), .int .i64 ((rd_T28 t132 0).f1), .int .i64 0, .int .i64 0, .int .i64 0]) ?_ 2 _ rfl; (with_reducible repeat (first | refine blk_drewN ?_ _ | refine blk_drew ?_ | refine blk_alloc ?_ _)); refine blk_put (cs := #[.int .i64 ((rd_T28 t132 0).f0), .int .i64 0, .int .i64 0, .int .i64 0, .int .i64 0]) ?_ 1 _ rfl; (with_reducible repeat (first | refine blk_drewN ?_ _ | refine blk_drew ?_ | refine blk_alloc ?_ _)); refine blk_put (cs := #[.int .i64 0, .int .i64 0, .int .i64 0, .int .i64 0, .int .i64 0]) ?_ 0 _ rfl; (with_reducible repeat (first | refine blk_drewN ?_ _ | refine blk_drew ?_ | refine blk_alloc ?_ _)); exact BK137.out⟩, ⟨by repeat (first | (with_reducible first | exact HB.out | apply below_alloc | apply pw_below_drewN | apply below_drew1 | refine below_set ?_ GE127.out | refine below_set ?_ GE136.out | refine below_set ?_ GE137.out) | exact HB.out)⟩⟩
            · rw [if_neg c40] at H
              have c40b0 : decide (((rd_T28 t132 0).f2) < ((rd_T28 t132 0).f3)) = false := decide_eq_false c40
              clear c40
              have H' := Aside0.mk H
              clear H
              have hnb44 := NB137_127.out
              have hnc44 := NB127_137.out
              have hnb45 := NB137_136.out
              have hnc45 := NB136_137.out
              have hcz46_0 : w19.cell? ⟨gb137, 0, none⟩ = some (.int .i64 0) := (blk_cell BK137.out 0).trans rfl
              have hcz46_1 : w19.cell? ⟨gb137, 1, none⟩ = some (.int .i64 0) := (blk_cell BK137.out 1).trans rfl
              have hcz46_2 : w19.cell? ⟨gb137, 2, none⟩ = some (.int .i64 0) := (blk_cell BK137.out 2).trans rfl
              have hcz46_3 : w19.cell? ⟨gb137, 3, none⟩ = some (.int .i64 0) := (blk_cell BK137.out 3).trans rfl
              have hcz46_4 : w19.cell? ⟨gb137, 4, none⟩ = some (.int .i64 0) := (blk_cell BK137.out 4).trans rfl
              have hfz46_0 := blk_frozen BK137.out 0
              have hfz46_1 := blk_frozen BK137.out 1
              have hfz46_2 := blk_frozen BK137.out 2
              have hfz46_3 := blk_frozen BK137.out 3
              have hfz46_4 := blk_frozen BK137.out 4
              go_wp2
              go_meet
              case rel => exact ⟨_, ((rd_T28 t132 0).f1), ((rd_T28 t132 0).f2), ((rd_T28 t132 0).f3), H', ⟨by first | omega | exact Nat.le_refl _⟩, ⟨by (with_reducible repeat (first | refine blk_drewN ?_ _ | refine blk_drew ?_ | refine blk_alloc ?_ _)); refine blk_far ?_ NB127_137.out _; (with_reducible repeat (first | refine blk_drewN ?_ _ | refine blk_drew ?_ | refine blk_alloc ?_ _)); refine blk_far ?_ NB127_137.out _; (with_reducible repeat (first | refine blk_drewN ?_ _ | refine blk_drew ?_ | refine blk_alloc ?_ _)); refine blk_far ?_ NB127_137.out _; (with_reducible repeat (first | refine blk_drewN ?_ _ | refine blk_drew ?_ | refine blk_alloc ?_ _)); refine blk_far ?_ NB127_137.out _; (with_reducible repeat (first | refine blk_drewN ?_ _ | refine blk_drew ?_ | refine blk_alloc ?_ _)); refine blk_far ?_ NB127_137.out _; (with_reducible repeat (first | refine blk_drewN ?_ _ | refine blk_drew ?_ | refine blk_alloc ?_ _)); exact BK127.out⟩, ⟨by (with_reducible repeat (first | refine blk_drewN ?_ _ | refine blk_drew ?_ | refine blk_alloc ?_ _)); refine blk_far ?_ NB136_137.out _; (with_reducible repeat (first | refine blk_drewN ?_ _ | refine blk_drew ?_ | refine blk_alloc ?_ _)); refine blk_far ?_ NB136_137.out _; (with_reducible repeat (first | refine blk_drewN ?_ _ | refine blk_drew ?_ | refine blk_alloc ?_ _)); refine blk_far ?_ NB136_137.out _; (with_reducible repeat (first | refine blk_drewN ?_ _ | refine blk_drew ?_ | refine blk_alloc ?_ _)); refine blk_far ?_ NB136_137.out _; (with_reducible repeat (first | refine blk_drewN ?_ _ | refine blk_drew ?_ | refine blk_alloc ?_ _)); refine blk_far ?_ NB136_137.out _; (with_reducible repeat (first | refine blk_drewN ?_ _ | refine blk_drew ?_ | refine blk_alloc ?_ _)); exact BK136.out⟩, ⟨by (with_reducible repeat (first | refine blk_drewN ?_ _ | refine blk_drew ?_ | refine blk_alloc ?_ _)); refine blk_put (cs := #[.int .i64 ((rd_T28 t132 0).f0), .int .i64 ((rd_T28 t132 0).f1), .int .i64 ((rd_T28 t132 0).f2), .int .i64 ((rd_T28 t132 0).f3), .int .i64 0]) ?_ 4 _ rfl; (with_reducible repeat (first | refine blk_drewN ?_ _ | refine blk_drew ?_ | refine blk_alloc ?_ _)); refine blk_put (cs := #[.int .i64 ((rd_T28 t132 0).f0), .int .i64 ((rd_T28 t132 0).f1), .int .i64 ((rd_T28 t132 0).f2), .int .i64 0, .int .i64 0]) ?_ 3 _ rfl; (with_reducible repeat (first | refine blk_drewN ?_ _ | refine blk_drew ?_ | refine blk_alloc ?_ _)); refine blk_put (cs := #[.int .i64 ((rd_T28 t132 0).f0), .int .i64 ((rd_T28 t132 0).f1), .int .i64 0, .int .i64 0, .int .i64 0]) ?_ 2 _ rfl; (with_reducible repeat (first | refine blk_drewN ?_ _ | refine blk_drew ?_ | refine blk_alloc ?_ _)); refine blk_put (cs := #[.int .i64 ((rd_T28 t132 0).f0), .int .i64 0, .int .i64 0, .int .i64 0, .int .i64 0]) ?_ 1 _ rfl; (with_reducible repeat (first | refine blk_drewN ?_ _ | refine blk_drew ?_ | refine blk_alloc ?_ _)); refine blk_put (cs := #[.int .i64 0, .int .i64 0, .int .i64 0, .int .i64 0, .int .i64 0]) ?_ 0 _ rfl; (with_reducible repeat (first | refine blk_drewN ?_ _ | refine blk_drew ?_ | refine blk_alloc ?_ _)); exact BK137.out⟩, ⟨by repeat (first | (with_reducible first | exact HB.out | apply below_alloc | apply pw_below_drewN | apply below_drew1 | refine below_set ?_ GE127.out | refine below_set ?_ GE136.out | refine below_set ?_ GE137.out) | exact HB.out)⟩⟩
          · rw [if_neg c39] at H
            have c39b0 : ((Int.tmod (wrap64 ((Int.tmod a1 3) + 3)) 3) == 2) = false := beq_eq_false_iff_ne.mpr c39
            have c39b1 : ((Int.tmod (wrap64 ((Int.tmod a1 3) + 3)) 3) != 2) = true := bne_iff_ne.mpr c39
            have H' := Aside0.mk H
            clear H
            go_wp2
            go_meet
            case rel => exact ⟨_, ((rd_T28 t132 0).f1), ((rd_T28 t132 0).f2), ((rd_T28 t132 0).f3), H', ⟨by first | omega | exact Nat.le_refl _⟩, ⟨by (with_reducible repeat (first | refine blk_drewN ?_ _ | refine blk_drew ?_ | refine blk_alloc ?_ _)); refine blk_far ?_ NB127_137.out _; (with_reducible repeat (first | refine blk_drewN ?_ _ | refine blk_drew ?_ | refine blk_alloc ?_ _)); refine blk_far ?_ NB127_137.out _; (with_reducible repeat (first | refine blk_drewN ?_ _ | refine blk_drew ?_ | refine blk_alloc ?_ _)); refine blk_far ?_ NB127_137.out _; (with_reducible repeat (first | refine blk_drewN ?_ _ | refine blk_drew ?_ | refine blk_alloc ?_ _)); refine blk_far ?_ NB127_137.out _; (with_reducible repeat (first | refine blk_drewN ?_ _ | refine blk_drew ?_ | refine blk_alloc ?_ _)); refine blk_far ?_ NB127_137.out _; (with_reducible repeat (first | refine blk_drewN ?_ _ | refine blk_drew ?_ | refine blk_alloc ?_ _)); exact BK127.out⟩, ⟨by (with_reducible repeat (first | refine blk_drewN ?_ _ | refine blk_drew ?_ | refine blk_alloc ?_ _)); refine blk_far ?_ NB136_137.out _; (with_reducible repeat (first | refine blk_drewN ?_ _ | refine blk_drew ?_ | refine blk_alloc ?_ _)); refine blk_far ?_ NB136_137.out _; (with_reducible repeat (first | refine blk_drewN ?_ _ | refine blk_drew ?_ | refine blk_alloc ?_ _)); refine blk_far ?_ NB136_137.out _; (with_reducible repeat (first | refine blk_drewN ?_ _ | refine blk_drew ?_ | refine blk_alloc ?_ _)); refine blk_far ?_ NB136_137.out _; (with_reducible repeat (first | refine blk_drewN ?_ _ | refine blk_drew ?_ | refine blk_alloc ?_ _)); refine blk_far ?_ NB136_137.out _; (with_reducible repeat (first | refine blk_drewN ?_ _ | refine blk_drew ?_ | refine blk_alloc ?_ _)); exact BK136.out⟩, ⟨by (with_reducible repeat (first | refine blk_drewN ?_ _ | refine blk_drew ?_ | refine blk_alloc ?_ _)); refine blk_put (cs := #[.int .i64 ((rd_T28 t132 0).f0), .int .i64 ((rd_T28 t132 0).f1), .int .i64 ((rd_T28 t132 0).f2), .int .i64 ((rd_T28 t132 0).f3), .int .i64 0]) ?_ 4 _ rfl; (with_reducible repeat (first | refine blk_drewN ?_ _ | refine blk_drew ?_ | refine blk_alloc ?_ _)); refine blk_put (cs := #[.int .i64 ((rd_T28 t132 0).f0), .int .i64 ((rd_T28 t132 0).f1), .int .i64 ((rd_T28 t132 0).f2), .int .i64 0, .int .i64 0]) ?_ 3 _ rfl; (with_reducible repeat (first | refine blk_drewN ?_ _ | refine blk_drew ?_ | refine blk_alloc ?_ _)); refine blk_put (cs := #[.int .i64 ((rd_T28 t132 0).f0), .int .i64 ((rd_T28 t132 0).f1), .int .i64 0, .int .i64 0, .int .i64 0]) ?_ 2 _ rfl; (with_reducible repeat (first | refine blk_drewN ?_ _ | refine blk_drew ?_ | refine blk_alloc ?_ _)); refine blk_put (cs := #[.int .i64 ((rd_T28 t132 0).f0), .int .i64 0, .int .i64 0, .int .i64 0, .int .i64 0]) ?_ 1 _ rfl; (with_reducible repeat (first | refine blk_drewN ?_ _ | refine blk_drew ?_ | refine blk_alloc ?_ _)); refine blk_put (cs := #[.int .i64 0, .int .i64 0, .int .i64 0, .int .i64 0, .int .i64 0]) ?_ 0 _ rfl; (with_reducible repeat (first | refine blk_drewN ?_ _ | refine blk_drew ?_ | refine blk_alloc ?_ _)); exact BK137.out⟩, ⟨by repeat (first | (with_reducible first | exact HB.out | apply below_alloc | apply pw_below_drewN | apply below_drew1 | refine below_set ?_ GE127.out | refine below_set ?_ GE136.out | refine below_set ?_ GE137.out) | exact HB.out)⟩⟩
    case rest =>
      clear HC7
      try clear c1
      try clear p1
      try clear q1
      try clear hx1
      try clear qi1
      try clear c2
      try clear p2
      try clear c3
      try clear c4
      try clear c6
      try clear c6b0
      try clear c6b1
      try clear p6
      try clear p13
      try clear q13
      try clear hx13
      try clear qi13
      try clear c15
      try clear c16
      try clear c17
      try clear c20
      try clear c21
      try clear c23
      try clear c23b0
      try clear c23b1
      try clear c24
      try clear c24b0
      try clear c25
      try clear c26
      try clear c28
      try clear c29
      try clear c31
      try clear c31b0
      try clear c31b1
      try clear c32
      try clear c32b0
      try clear c33
      try clear c34
      try clear c36
      try clear c37
      try clear c39
      try clear c39b0
      try clear c39b1
      try clear c40
      try clear c40b0
      try clear c41
      try clear c42
      try clear c44
      try clear c45
      try clear hcz10_0
      try clear hcz10_1
      try clear hcz10_2
      try clear hcz18_0
      try clear hcz18_1
      try clear hcz18_2
      try clear hcz18_3
      try clear hcz18_4
      try clear hcz22_0
      try clear hcz22_1
      try clear hcz22_2
      try clear hcz22_3
      try clear hcz22_4
      try clear hcz27_0
      try clear hcz27_1
      try clear hcz27_2
      try clear hcz27_3
      try clear hcz27_4
      try clear hcz30_0
      try clear hcz30_1
      try clear hcz30_2
      try clear hcz30_3
      try clear hcz30_4
      try clear hcz35_0
      try clear hcz35_1
      try clear hcz35_2
      try clear hcz35_3
      try clear hcz35_4
      try clear hcz38_0
      try clear hcz38_1
      try clear hcz38_2
      try clear hcz38_3
      try clear hcz38_4
      try clear hcz43_0
      try clear hcz43_1
      try clear hcz43_2
      try clear hcz43_3
      try clear hcz43_4
      try clear hcz46_0
      try clear hcz46_1
      try clear hcz46_2
      try clear hcz46_3
      try clear hcz46_4
      try clear hfz10_0
      try clear hfz10_1
      try clear hfz10_2
      try clear hfz18_0
      try clear hfz18_1
      try clear hfz18_2
      try clear hfz18_3
      try clear hfz18_4
      try clear hfz22_0
      try clear hfz22_1
      try clear hfz22_2
      try clear hfz22_3
      try clear hfz22_4
      try clear hfz27_0
      try clear hfz27_1
      try clear hfz27_2
      try clear hfz27_3
      try clear hfz27_4
      try clear hfz30_0
      try clear hfz30_1
      try clear hfz30_2
      try clear hfz30_3
      try clear hfz30_4
      try clear hfz35_0
      try clear hfz35_1
      try clear hfz35_2
      try clear hfz35_3
      try clear hfz35_4
      try clear hfz38_0
      try clear hfz38_1
      try clear hfz38_2
      try clear hfz38_3
      try clear hfz38_4
      try clear hfz43_0
      try clear hfz43_1
      try clear hfz43_2
      try clear hfz43_3
      try clear hfz43_4
      try clear hfz46_0
      try clear hfz46_1
      try clear hfz46_2
      try clear hfz46_3
      try clear hfz46_4
      try clear hx135_0
      try clear hx135_1
      try clear hx135_2
      try clear hx135_3
      try clear hx135_4
      try clear p135
      try clear q135
      obtain ⟨kq, x138001_6, x138002_6, x138003_6, HA, HJ6, BK127, BK136, BK137, HB⟩ := hcut
      cases kq with
      | zero => exact absurd HA.out (by simp [horariumlaw10_DemandMore.j0])
      | succ kj6 =>
        have H := HA.out
        clear HA
        simp only [horariumlaw10_DemandMore.j0] at H
        by_cases c47 : t128 = true
        · subst c47
          have H1 : ((demand_One.f kj6 ((rd_T28 t132 0).f0) x138001_6 x138002_6 x138003_6 ((rd_T28 t132 0).f4) (Go.bits .and .i64 a2 1048575)).bind fun t138 => ((demand_One.f kj6 ((rd_T28 t132 0).f0) ((rd_T28 t132 0).f1) ((rd_T28 t132 0).f2) ((rd_T28 t132 0).f3) ((rd_T28 t132 0).f4) (Go.bits .and .i64 a2 1048575)).bind fun t139 => (if t138 ≥ t139 then ((demand_Of.f kj6 (([(⟨((rd_T28 t132 0).f0), x138001_6, x138002_6, x138003_6, ((rd_T28 t132 0).f4)⟩ : S28), (⟨((rd_T28 t132 0).f0), ((rd_T28 t132 0).f1), ((rd_T28 t132 0).f2), ((rd_T28 t132 0).f3), ((rd_T28 t132 0).f4)⟩ : S28)] : List (S28))) (Go.bits .and .i64 a2 1048575)).bind fun t143 => ((demand_One.f kj6 ((rd_T28 t132 0).f0) x138001_6 x138002_6 x138003_6 ((rd_T28 t132 0).f4) (Go.bits .and .i64 a2 1048575)).bind fun t144 => ((demand_One.f kj6 ((rd_T28 t132 0).f0) ((rd_T28 t132 0).f1) ((rd_T28 t132 0).f2) ((rd_T28 t132 0).f3) ((rd_T28 t132 0).f4) (Go.bits .and .i64 a2 1048575)).bind fun t145 => (some (t143 == (wrap64 (t144 + t145))))))) else (some false)))) = some r := by rw [if_pos rfl] at H; exact H
          clear H
          have H := H1
          clear H1
          replace H := Option.bind_eq_some_iff.mp H
          obtain ⟨t138, A480, H⟩ := H
          replace H : ((demand_One.f kj6 ((rd_T28 t132 0).f0) ((rd_T28 t132 0).f1) ((rd_T28 t132 0).f2) ((rd_T28 t132 0).f3) ((rd_T28 t132 0).f4) (Go.bits .and .i64 a2 1048575)).bind fun t139 => (if t138 ≥ t139 then ((demand_Of.f kj6 (([(⟨((rd_T28 t132 0).f0), x138001_6, x138002_6, x138003_6, ((rd_T28 t132 0).f4)⟩ : S28), (⟨((rd_T28 t132 0).f0), ((rd_T28 t132 0).f1), ((rd_T28 t132 0).f2), ((rd_T28 t132 0).f3), ((rd_T28 t132 0).f4)⟩ : S28)] : List (S28))) (Go.bits .and .i64 a2 1048575)).bind fun t143 => ((demand_One.f kj6 ((rd_T28 t132 0).f0) x138001_6 x138002_6 x138003_6 ((rd_T28 t132 0).f4) (Go.bits .and .i64 a2 1048575)).bind fun t144 => ((demand_One.f kj6 ((rd_T28 t132 0).f0) ((rd_T28 t132 0).f1) ((rd_T28 t132 0).f2) ((rd_T28 t132 0).f3) ((rd_T28 t132 0).f4) (Go.bits .and .i64 a2 1048575)).bind fun t145 => (some (t143 == (wrap64 (t144 + t145))))))) else (some false))) = some r := H
          have A48 := Aside0.mk A480
          clear A480
          replace H := Option.bind_eq_some_iff.mp H
          obtain ⟨t139, A490, H⟩ := H
          replace H : (if t138 ≥ t139 then ((demand_Of.f kj6 (([(⟨((rd_T28 t132 0).f0), x138001_6, x138002_6, x138003_6, ((rd_T28 t132 0).f4)⟩ : S28), (⟨((rd_T28 t132 0).f0), ((rd_T28 t132 0).f1), ((rd_T28 t132 0).f2), ((rd_T28 t132 0).f3), ((rd_T28 t132 0).f4)⟩ : S28)] : List (S28))) (Go.bits .and .i64 a2 1048575)).bind fun t143 => ((demand_One.f kj6 ((rd_T28 t132 0).f0) x138001_6 x138002_6 x138003_6 ((rd_T28 t132 0).f4) (Go.bits .and .i64 a2 1048575)).bind fun t144 => ((demand_One.f kj6 ((rd_T28 t132 0).f0) ((rd_T28 t132 0).f1) ((rd_T28 t132 0).f2) ((rd_T28 t132 0).f3) ((rd_T28 t132 0).f4) (Go.bits .and .i64 a2 1048575)).bind fun t145 => (some (t143 == (wrap64 (t144 + t145))))))) else (some false)) = some r := H
          have A49 := Aside0.mk A490
          clear A490
          by_cases c50 : t138 ≥ t139
          · rw [if_pos c50] at H
            have c50b0 : decide (t139 ≤ t138) = true := decide_eq_true c50
            clear c50
            obtain ⟨y140, hy140⟩ : ∃ y_ : List (S28), y_ = (([(⟨((rd_T28 t132 0).f0), x138001_6, x138002_6, x138003_6, ((rd_T28 t132 0).f4)⟩ : S28), (⟨((rd_T28 t132 0).f0), ((rd_T28 t132 0).f1), ((rd_T28 t132 0).f2), ((rd_T28 t132 0).f3), ((rd_T28 t132 0).f4)⟩ : S28)] : List (S28))) := ⟨_, rfl⟩
            replace H : ((demand_Of.f kj6 y140 (Go.bits .and .i64 a2 1048575)).bind fun t143 => ((demand_One.f kj6 ((rd_T28 t132 0).f0) x138001_6 x138002_6 x138003_6 ((rd_T28 t132 0).f4) (Go.bits .and .i64 a2 1048575)).bind fun t144 => ((demand_One.f kj6 ((rd_T28 t132 0).f0) ((rd_T28 t132 0).f1) ((rd_T28 t132 0).f2) ((rd_T28 t132 0).f3) ((rd_T28 t132 0).f4) (Go.bits .and .i64 a2 1048575)).bind fun t145 => (some (t143 == (wrap64 (t144 + t145))))))) = some r := by first | (rw [hy140]; with_reducible exact H) | (have H2_ := (Option.bind_some _ _).symm.trans H; rw [hy140]; with_reducible exact H2_) | (have H2_ := (Option.bind_some _ _).symm.trans H; with_reducible exact H2_) | with_reducible exact H | (rw [hy140]; exact H) | exact H
            have Ny140 := Aside0.mk hy140
            clear hy140
            replace H := Option.bind_eq_some_iff.mp H
            obtain ⟨t143, A510, H⟩ := H
            replace H : ((demand_One.f kj6 ((rd_T28 t132 0).f0) x138001_6 x138002_6 x138003_6 ((rd_T28 t132 0).f4) (Go.bits .and .i64 a2 1048575)).bind fun t144 => ((demand_One.f kj6 ((rd_T28 t132 0).f0) ((rd_T28 t132 0).f1) ((rd_T28 t132 0).f2) ((rd_T28 t132 0).f3) ((rd_T28 t132 0).f4) (Go.bits .and .i64 a2 1048575)).bind fun t145 => (some (t143 == (wrap64 (t144 + t145)))))) = some r := H
            have A51 := Aside0.mk A510
            clear A510
            replace H := Option.bind_eq_some_iff.mp H
            obtain ⟨t144, A520, H⟩ := H
            replace H : ((demand_One.f kj6 ((rd_T28 t132 0).f0) ((rd_T28 t132 0).f1) ((rd_T28 t132 0).f2) ((rd_T28 t132 0).f3) ((rd_T28 t132 0).f4) (Go.bits .and .i64 a2 1048575)).bind fun t145 => (some (t143 == (wrap64 (t144 + t145))))) = some r := H
            have A52 := Aside0.mk A520
            clear A520
            replace H := Option.bind_eq_some_iff.mp H
            obtain ⟨t145, A530, H⟩ := H
            replace H : (some (t143 == (wrap64 (t144 + t145)))) = some r := H
            have A53 := Aside0.mk A530
            clear A530
            obtain rfl := Option.some.inj H
            try go_wp2
            have n0_ := Aside0.mk (blk_drew BK127.out)
            have n1_ := Aside0.mk (blk_drew BK136.out)
            have n2_ := Aside0.mk (blk_drew BK137.out)
            have n3_ := Aside0.mk (below_drew1 HB.out)
            clear BK127
            clear BK136
            clear BK137
            clear HB
            have BK127 := n0_
            have BK136 := n1_
            have BK137 := n2_
            have HB := n3_
            clear n0_ n1_ n2_ n3_
            refine start_ (n := 26) (S := fun w' => w'.cell? ⟨gb137, 0, none⟩ = some (.int .i64 ((rd_T28 t132 0).f0)) ∧ w'.cell? ⟨gb137, 1, none⟩ = some (.int .i64 x138001_6) ∧ w'.cell? ⟨gb137, 2, none⟩ = some (.int .i64 x138002_6) ∧ w'.cell? ⟨gb137, 3, none⟩ = some (.int .i64 x138003_6) ∧ w'.cell? ⟨gb137, 4, none⟩ = some (.int .i64 ((rd_T28 t132 0).f4)) ∧ w'.cell? ⟨gb136, 0, none⟩ = some (.int .i64 ((rd_T28 t132 0).f0)) ∧ w'.cell? ⟨gb136, 1, none⟩ = some (.int .i64 ((rd_T28 t132 0).f1)) ∧ w'.cell? ⟨gb136, 2, none⟩ = some (.int .i64 ((rd_T28 t132 0).f2)) ∧ w'.cell? ⟨gb136, 3, none⟩ = some (.int .i64 ((rd_T28 t132 0).f3)) ∧ w'.cell? ⟨gb136, 4, none⟩ = some (.int .i64 ((rd_T28 t132 0).f4))) (ds := []) #[false, false, false, false, false, false, false, false, false, false, false, false, false, false, false, false, false, false, false, false, false, false, false, false, false, false] (by kernel_rfl) rfl rfl ⟨(blk_cell BK137.out 0).trans rfl, (blk_cell BK137.out 1).trans rfl, (blk_cell BK137.out 2).trans rfl, (blk_cell BK137.out 3).trans rfl, (blk_cell BK137.out 4).trans rfl, (blk_cell BK136.out 0).trans rfl, (blk_cell BK136.out 1).trans rfl, (blk_cell BK136.out 2).trans rfl, (blk_cell BK136.out 3).trans rfl, (blk_cell BK136.out 4).trans rfl⟩ (fun hHeld => ?_); refine with_tabW horariumlaw10_DemandMore.tab15 horariumlaw10_DemandMore.bits15 (fun HT_ HW_ => ?_)
            generalize wc.drew = w54 at BK127 BK136 BK137 HB hHeld ⊢
            refine pure_ (i := 0) (N := some 57) (v := ?_) (a' := ?_) #[true, false, false, false, false, false, false, false, false, false, false, false, false, false, false, false, false, false, false, false, false, false, false, false, false, false] rfl rfl (any_of HT_.out (by kernel_rfl)) (fun _ _ _ h => h) (Or.inl ⟨by rfl, ?_⟩) ?_ ?_
            rotate_left
            · intro w'
              go_simp
              with_reducible rfl
            rotate_left
            · simp only [Act.put, List.setIfInBounds_toArray, List.set_cons_zero, List.set_cons_succ, i64_w, i32_w]
              rfl
            refine pure_ (i := 1) (N := some 58) (v := ?_) (a' := ?_) #[true, true, false, false, false, false, false, false, false, false, false, false, false, false, false, false, false, false, false, false, false, false, false, false, false, false] rfl rfl (any_of HT_.out (by kernel_rfl)) (fun _ _ _ h => h) (Or.inl ⟨by rfl, ?_⟩) ?_ ?_
            rotate_left
            · intro w'
              go_simp
              with_reducible rfl
            rotate_left
            · simp only [Act.put, List.setIfInBounds_toArray, List.set_cons_zero, List.set_cons_succ, i64_w, i32_w]
              rfl
            refine pure_ (i := 3) (N := some 60) (v := ?_) (a' := ?_) #[true, true, false, true, false, false, false, false, false, false, false, false, false, false, false, false, false, false, false, false, false, false, false, false, false, false] rfl rfl (any_of HT_.out (by kernel_rfl)) (fun _ _ _ h => h) (Or.inl ⟨by rfl, ?_⟩) ?_ ?_
            rotate_left
            · intro w'
              go_simp
              with_reducible rfl
            rotate_left
            · simp only [Act.put, List.setIfInBounds_toArray, List.set_cons_zero, List.set_cons_succ, i64_w, i32_w]
              rfl
            refine pure_ (i := 6) (N := some 63) (v := ?_) (a' := ?_) #[true, true, false, true, false, false, true, false, false, false, false, false, false, false, false, false, false, false, false, false, false, false, false, false, false, false] rfl rfl (any_of HT_.out (by kernel_rfl)) (fun _ _ _ h => h) (Or.inl ⟨by rfl, ?_⟩) ?_ ?_
            rotate_left
            · intro w'
              go_simp
              with_reducible rfl
            rotate_left
            · simp only [Act.put, List.setIfInBounds_toArray, List.set_cons_zero, List.set_cons_succ, i64_w, i32_w]
              rfl
            refine take_ (i := 2) (N := some 59) (v := ?_) (a' := ?_) #[true, true, true, true, false, false, true, false, false, false, false, false, false, false, false, false, false, false, false, false, false, false, false, false, false, false] rfl rfl (take_ofW HT_.out HW_.out (by kernel_rfl)) (fun _ _ _ h => h) (Or.inl ⟨by rfl, ?_⟩) hHeld ?_ ?_
            rotate_left
            · rintro w' ⟨s0, s1, s2, s3, s4, s5, s6, s7, s8, s9⟩
              go_simp
              with_reducible rfl
            rotate_left
            · simp only [Act.put, List.setIfInBounds_toArray, List.set_cons_zero, List.set_cons_succ, i64_w, i32_w]
              rfl
            refine take_ (i := 5) (N := some 62) (v := ?_) (a' := ?_) #[true, true, true, true, false, true, true, false, false, false, false, false, false, false, false, false, false, false, false, false, false, false, false, false, false, false] rfl rfl (take_ofW HT_.out HW_.out (by kernel_rfl)) (fun _ _ _ h => h) (Or.inl ⟨by rfl, ?_⟩) hHeld ?_ ?_
            rotate_left
            · rintro w' ⟨s0, s1, s2, s3, s4, s5, s6, s7, s8, s9⟩
              go_simp
              with_reducible rfl
            rotate_left
            · simp only [Act.put, List.setIfInBounds_toArray, List.set_cons_zero, List.set_cons_succ, i64_w, i32_w]
              rfl
            refine one_ (i := 4) (N := some 61) #[true, true, true, true, true, true, true, false, false, false, false, false, false, false, false, false, false, false, false, false, false, false, false, false, false, false] rfl rfl (one_of HT_.out (by kernel_rfl)) (by decide) (fun K hK => ?_)
            refine goes_ Try.func17 (by kernel_rfl) rfl #[.agg #[.int .i64 ((rd_T28 t132 0).f0), .int .i64 x138001_6, .int .i64 x138002_6, .int .i64 x138003_6, .int .i64 ((rd_T28 t132 0).f4)], .int .i64 (Go.bits .and .i64 a2 1048575)] (by rfl) rfl rfl (by (try simp only [List.map_toArray, List.map_cons, List.map_nil]); first | done | rfl | (simp only [List.length_drop, List.length_take]; rfl)) ?_
            with_reducible refine (demand_One.calls kj6 ((rd_T28 t132 0).f0) x138001_6 x138002_6 x138003_6 ((rd_T28 t132 0).f4) (Go.bits .and .i64 a2 1048575) t138 _ A48.out).mono ?_
            rintro e w55 ⟨rfl, hb⟩
            refine ⟨_, rfl, ?_⟩
            have n0_ := Aside0.mk (blk_below (g := gb127) (o := .cells #[.int .i64 a0_0, .int .i64 a0_1, .int .i64 a0_2] 31 (0, 0)) (by (with_reducible repeat (first | refine blk_drewN ?_ _ | refine blk_drew ?_ | refine blk_alloc ?_ _)); exact BK127.out) hb)
            have n1_ := Aside0.mk (blk_below (g := gb136) (o := .cells #[.int .i64 ((rd_T28 t132 0).f0), .int .i64 ((rd_T28 t132 0).f1), .int .i64 ((rd_T28 t132 0).f2), .int .i64 ((rd_T28 t132 0).f3), .int .i64 ((rd_T28 t132 0).f4)] 28 (0, 0)) (by (with_reducible repeat (first | refine blk_drewN ?_ _ | refine blk_drew ?_ | refine blk_alloc ?_ _)); exact BK136.out) hb)
            have n2_ := Aside0.mk (blk_below (g := gb137) (o := .cells #[.int .i64 ((rd_T28 t132 0).f0), .int .i64 x138001_6, .int .i64 x138002_6, .int .i64 x138003_6, .int .i64 ((rd_T28 t132 0).f4)] 28 (0, 0)) (by (with_reducible repeat (first | refine blk_drewN ?_ _ | refine blk_drew ?_ | refine blk_alloc ?_ _)); exact BK137.out) hb)
            have n3_ := Aside0.mk (below_step (by repeat (first | (with_reducible first | exact HB.out | apply below_alloc | apply pw_below_drewN | apply below_drew1 | refine below_set ?_ GE127.out | refine below_set ?_ GE136.out | refine below_set ?_ GE137.out) | exact HB.out)) hb)
            clear BK127
            clear BK136
            clear BK137
            clear HB
            have BK127 := n0_
            have BK136 := n1_
            have BK137 := n2_
            have HB := n3_
            clear n0_ n1_ n2_ n3_
            (try clear hb)
            (try clear hb2)
            (try clear hk)
            (try clear hi)
            refine hK.out _ _ ⟨(blk_cell BK137.out 0).trans rfl, (blk_cell BK137.out 1).trans rfl, (blk_cell BK137.out 2).trans rfl, (blk_cell BK137.out 3).trans rfl, (blk_cell BK137.out 4).trans rfl, (blk_cell BK136.out 0).trans rfl, (blk_cell BK136.out 1).trans rfl, (blk_cell BK136.out 2).trans rfl, (blk_cell BK136.out 3).trans rfl, (blk_cell BK136.out 4).trans rfl⟩ (fun hHeld => ?_)
            clear hK K
            refine norm_ (a' := ?_) ?_ ?_
            rotate_left
            · show Act.put _ (some 61) _ = _
              simp only [Act.put, List.setIfInBounds_toArray, List.set_cons_zero, List.set_cons_succ, i64_w, i32_w]
              rfl
            refine one_ (i := 7) (N := some 64) #[true, true, true, true, true, true, true, true, false, false, false, false, false, false, false, false, false, false, false, false, false, false, false, false, false, false] rfl rfl (one_of HT_.out (by kernel_rfl)) (by decide) (fun K hK => ?_)
            refine goes_ Try.func17 (by kernel_rfl) rfl #[.agg #[.int .i64 ((rd_T28 t132 0).f0), .int .i64 ((rd_T28 t132 0).f1), .int .i64 ((rd_T28 t132 0).f2), .int .i64 ((rd_T28 t132 0).f3), .int .i64 ((rd_T28 t132 0).f4)], .int .i64 (Go.bits .and .i64 a2 1048575)] (by rfl) rfl rfl (by (try simp only [List.map_toArray, List.map_cons, List.map_nil]); first | done | rfl | (simp only [List.length_drop, List.length_take]; rfl)) ?_
            with_reducible refine (demand_One.calls kj6 ((rd_T28 t132 0).f0) ((rd_T28 t132 0).f1) ((rd_T28 t132 0).f2) ((rd_T28 t132 0).f3) ((rd_T28 t132 0).f4) (Go.bits .and .i64 a2 1048575) t139 _ A49.out).mono ?_
            rintro e w56 ⟨rfl, hb⟩
            refine ⟨_, rfl, ?_⟩
            have n0_ := Aside0.mk (blk_below (g := gb127) (o := .cells #[.int .i64 a0_0, .int .i64 a0_1, .int .i64 a0_2] 31 (0, 0)) (by (with_reducible repeat (first | refine blk_drewN ?_ _ | refine blk_drew ?_ | refine blk_alloc ?_ _)); exact BK127.out) hb)
            have n1_ := Aside0.mk (blk_below (g := gb136) (o := .cells #[.int .i64 ((rd_T28 t132 0).f0), .int .i64 ((rd_T28 t132 0).f1), .int .i64 ((rd_T28 t132 0).f2), .int .i64 ((rd_T28 t132 0).f3), .int .i64 ((rd_T28 t132 0).f4)] 28 (0, 0)) (by (with_reducible repeat (first | refine blk_drewN ?_ _ | refine blk_drew ?_ | refine blk_alloc ?_ _)); exact BK136.out) hb)
            have n2_ := Aside0.mk (blk_below (g := gb137) (o := .cells #[.int .i64 ((rd_T28 t132 0).f0), .int .i64 x138001_6, .int .i64 x138002_6, .int .i64 x138003_6, .int .i64 ((rd_T28 t132 0).f4)] 28 (0, 0)) (by (with_reducible repeat (first | refine blk_drewN ?_ _ | refine blk_drew ?_ | refine blk_alloc ?_ _)); exact BK137.out) hb)
            have n3_ := Aside0.mk (below_step (by repeat (first | (with_reducible first | exact HB.out | apply below_alloc | apply pw_below_drewN | apply below_drew1 | refine below_set ?_ GE127.out | refine below_set ?_ GE136.out | refine below_set ?_ GE137.out) | exact HB.out)) hb)
            clear BK127
            clear BK136
            clear BK137
            clear HB
            have BK127 := n0_
            have BK136 := n1_
            have BK137 := n2_
            have HB := n3_
            clear n0_ n1_ n2_ n3_
            (try clear hb)
            (try clear hb2)
            (try clear hk)
            (try clear hi)
            refine hK.out _ _ ⟨(blk_cell BK137.out 0).trans rfl, (blk_cell BK137.out 1).trans rfl, (blk_cell BK137.out 2).trans rfl, (blk_cell BK137.out 3).trans rfl, (blk_cell BK137.out 4).trans rfl, (blk_cell BK136.out 0).trans rfl, (blk_cell BK136.out 1).trans rfl, (blk_cell BK136.out 2).trans rfl, (blk_cell BK136.out 3).trans rfl, (blk_cell BK136.out 4).trans rfl⟩ (fun hHeld => ?_)
            clear hK K
            refine norm_ (a' := ?_) ?_ ?_
            rotate_left
            · show Act.put _ (some 64) _ = _
              simp only [Act.put, List.setIfInBounds_toArray, List.set_cons_zero, List.set_cons_succ, i64_w, i32_w]
              rfl
            refine pure_ (i := 8) (N := some 65) (v := ?_) (a' := ?_) #[true, true, true, true, true, true, true, true, true, false, false, false, false, false, false, false, false, false, false, false, false, false, false, false, false, false] rfl rfl (any_of HT_.out (by kernel_rfl)) (fun _ _ _ h => h) (Or.inl ⟨by rfl, ?_⟩) ?_ ?_
            rotate_left
            · intro w'
              go_simp
              with_reducible rfl
            rotate_left
            · simp only [Act.put, List.setIfInBounds_toArray, List.set_cons_zero, List.set_cons_succ, i64_w, i32_w]
              rfl
            refine pure_ (i := 9) (N := some 66) (v := ?_) (a' := ?_) #[true, true, true, true, true, true, true, true, true, true, false, false, false, false, false, false, false, false, false, false, false, false, false, false, false, false] rfl rfl (any_of HT_.out (by kernel_rfl)) (fun _ _ _ h => h) (Or.inl ⟨by rfl, ?_⟩) ?_ ?_
            rotate_left
            · intro w'
              go_simp
              with_reducible rfl
            rotate_left
            · simp only [Act.put, List.setIfInBounds_toArray, List.set_cons_zero, List.set_cons_succ, i64_w, i32_w]
              rfl
            refine pure_ (i := 10) (N := some 67) (v := ?_) (a' := ?_) #[true, true, true, true, true, true, true, true, true, true, true, false, false, false, false, false, false, false, false, false, false, false, false, false, false, false] rfl rfl (any_of HT_.out (by kernel_rfl)) (fun _ _ _ h => h) (Or.inl ⟨by rfl, ?_⟩) ?_ ?_
            rotate_left
            · intro w'
              go_simp
              with_reducible rfl
            rotate_left
            · simp only [Act.put, List.setIfInBounds_toArray, List.set_cons_zero, List.set_cons_succ, i64_w, i32_w]
              rfl
            refine pure_ (i := 14) (N := some 71) (v := ?_) (a' := ?_) #[true, true, true, true, true, true, true, true, true, true, true, false, false, false, true, false, false, false, false, false, false, false, false, false, false, false] rfl rfl (any_of HT_.out (by kernel_rfl)) (fun _ _ _ h => h) (Or.inl ⟨by rfl, ?_⟩) ?_ ?_
            rotate_left
            · intro w'
              go_simp
              with_reducible rfl
            rotate_left
            · simp only [Act.put, List.setIfInBounds_toArray, List.set_cons_zero, List.set_cons_succ, i64_w, i32_w]
              rfl
            refine pure_ (i := 17) (N := some 74) (v := ?_) (a' := ?_) #[true, true, true, true, true, true, true, true, true, true, true, false, false, false, true, false, false, true, false, false, false, false, false, false, false, false] rfl rfl (any_of HT_.out (by kernel_rfl)) (fun _ _ _ h => h) (Or.inl ⟨by rfl, ?_⟩) ?_ ?_
            rotate_left
            · intro w'
              go_simp
              with_reducible rfl
            rotate_left
            · simp only [Act.put, List.setIfInBounds_toArray, List.set_cons_zero, List.set_cons_succ, i64_w, i32_w]
              rfl
            refine pure_ (i := 20) (N := some 77) (v := ?_) (a' := ?_) #[true, true, true, true, true, true, true, true, true, true, true, false, false, false, true, false, false, true, false, false, true, false, false, false, false, false] rfl rfl (any_of HT_.out (by kernel_rfl)) (fun _ _ _ h => h) (Or.inl ⟨by rfl, ?_⟩) ?_ ?_
            rotate_left
            · intro w'
              go_simp
              with_reducible rfl
            rotate_left
            · simp only [Act.put, List.setIfInBounds_toArray, List.set_cons_zero, List.set_cons_succ, i64_w, i32_w]
              rfl
            refine take_ (i := 11) (N := some 68) (v := ?_) (a' := ?_) #[true, true, true, true, true, true, true, true, true, true, true, true, false, false, true, false, false, true, false, false, true, false, false, false, false, false] rfl rfl (take_ofW HT_.out HW_.out (by kernel_rfl)) (fun _ _ _ h => h) (Or.inl ⟨by rfl, ?_⟩) hHeld ?_ ?_
            rotate_left
            · rintro w' ⟨s0, s1, s2, s3, s4, s5, s6, s7, s8, s9⟩
              go_simp
              with_reducible rfl
            rotate_left
            · simp only [Act.put, List.setIfInBounds_toArray, List.set_cons_zero, List.set_cons_succ, i64_w, i32_w]
              rfl
            refine take_ (i := 12) (N := some 69) (v := ?_) (a' := ?_) #[true, true, true, true, true, true, true, true, true, true, true, true, true, false, true, false, false, true, false, false, true, false, false, false, false, false] rfl rfl (take_ofW HT_.out HW_.out (by kernel_rfl)) (fun _ _ _ h => h) (Or.inl ⟨by rfl, ?_⟩) hHeld ?_ ?_
            rotate_left
            · rintro w' ⟨s0, s1, s2, s3, s4, s5, s6, s7, s8, s9⟩
              go_simp
              with_reducible rfl
            rotate_left
            · simp only [Act.put, List.setIfInBounds_toArray, List.set_cons_zero, List.set_cons_succ, i64_w, i32_w]
              rfl
            refine take_ (i := 16) (N := some 73) (v := ?_) (a' := ?_) #[true, true, true, true, true, true, true, true, true, true, true, true, true, false, true, false, true, true, false, false, true, false, false, false, false, false] rfl rfl (take_ofW HT_.out HW_.out (by kernel_rfl)) (fun _ _ _ h => h) (Or.inl ⟨by rfl, ?_⟩) hHeld ?_ ?_
            rotate_left
            · rintro w' ⟨s0, s1, s2, s3, s4, s5, s6, s7, s8, s9⟩
              go_simp
              with_reducible rfl
            rotate_left
            · simp only [Act.put, List.setIfInBounds_toArray, List.set_cons_zero, List.set_cons_succ, i64_w, i32_w]
              rfl
            refine take_ (i := 19) (N := some 76) (v := ?_) (a' := ?_) #[true, true, true, true, true, true, true, true, true, true, true, true, true, false, true, false, true, true, false, true, true, false, false, false, false, false] rfl rfl (take_ofW HT_.out HW_.out (by kernel_rfl)) (fun _ _ _ h => h) (Or.inl ⟨by rfl, ?_⟩) hHeld ?_ ?_
            rotate_left
            · rintro w' ⟨s0, s1, s2, s3, s4, s5, s6, s7, s8, s9⟩
              go_simp
              with_reducible rfl
            rotate_left
            · simp only [Act.put, List.setIfInBounds_toArray, List.set_cons_zero, List.set_cons_succ, i64_w, i32_w]
              rfl
            refine one_ (i := 13) (N := some 70) #[true, true, true, true, true, true, true, true, true, true, true, true, true, true, true, false, true, true, false, true, true, false, false, false, false, false] rfl rfl (one_of HT_.out (by kernel_rfl)) (by decide) (fun K hK => ?_)
            refine Kd.R_lit_step k28 _ 28 ?hg (N := 70) ?hd (xs := ([(⟨((rd_T28 t132 0).f0), x138001_6, x138002_6, x138003_6, ((rd_T28 t132 0).f4)⟩ : S28), (⟨((rd_T28 t132 0).f0), ((rd_T28 t132 0).f1), ((rd_T28 t132 0).f2), ((rd_T28 t132 0).f3), ((rd_T28 t132 0).f4)⟩ : S28)] : List (S28))) (inner := [.int .i64 ((rd_T28 t132 0).f0), .int .i64 x138001_6, .int .i64 x138002_6, .int .i64 x138003_6, .int .i64 ((rd_T28 t132 0).f4), .int .i64 ((rd_T28 t132 0).f0), .int .i64 ((rd_T28 t132 0).f1), .int .i64 ((rd_T28 t132 0).f2), .int .i64 ((rd_T28 t132 0).f3), .int .i64 ((rd_T28 t132 0).f4)]) (ok := fun _ => True) (okp := fun _ => True) ?hr ?hp (fun _ hk => hk) trivial (Below.refl _ _) (Nat.le_refl _) (by simp) ?_; (case hd => rfl); (case hg => rfl); (case hr => first | (go_simp; done) | (go_simp; rfl)); (case hp => exact (Reps.c5 (show Kd.M k28 _ _ _ (⟨((rd_T28 t132 0).f0), x138001_6, x138002_6, x138003_6, ((rd_T28 t132 0).f4)⟩ : S28) [.int .i64 ((rd_T28 t132 0).f0), .int .i64 x138001_6, .int .i64 x138002_6, .int .i64 x138003_6, .int .i64 ((rd_T28 t132 0).f4)] from (k28_mkM _ _ _ (⟨((rd_T28 t132 0).f0), x138001_6, x138002_6, x138003_6, ((rd_T28 t132 0).f4)⟩ : S28) )) (Reps.c5 (show Kd.M k28 _ _ _ (⟨((rd_T28 t132 0).f0), ((rd_T28 t132 0).f1), ((rd_T28 t132 0).f2), ((rd_T28 t132 0).f3), ((rd_T28 t132 0).f4)⟩ : S28) [.int .i64 ((rd_T28 t132 0).f0), .int .i64 ((rd_T28 t132 0).f1), .int .i64 ((rd_T28 t132 0).f2), .int .i64 ((rd_T28 t132 0).f3), .int .i64 ((rd_T28 t132 0).f4)] from (k28_mkM _ _ _ (⟨((rd_T28 t132 0).f0), ((rd_T28 t132 0).f1), ((rd_T28 t132 0).f2), ((rd_T28 t132 0).f3), ((rd_T28 t132 0).f4)⟩ : S28) )) (Reps.none _ _))))
            intro v141 w57 ho58 hb hg_ hnew_
            clear hg_ hnew_
            (first | rw [← Ny140.out] at ho58 | (simp only [Int.reduceToNat] at ho58; rw [← Ny140.out] at ho58))
            have n0_ := Aside0.mk (Kd.R_lower (Kd.R_newB (Kd.R_newB ho58 (g := gb136) (o := .cells #[.int .i64 ((rd_T28 t132 0).f0), .int .i64 ((rd_T28 t132 0).f1), .int .i64 ((rd_T28 t132 0).f2), .int .i64 ((rd_T28 t132 0).f3), .int .i64 ((rd_T28 t132 0).f4)] 28 (0, 0)) (by (with_reducible repeat (first | refine blk_drewN ?_ _ | refine blk_drew ?_ | refine blk_alloc ?_ _)); exact BK136.out)) (g := gb137) (o := .cells #[.int .i64 ((rd_T28 t132 0).f0), .int .i64 x138001_6, .int .i64 x138002_6, .int .i64 x138003_6, .int .i64 ((rd_T28 t132 0).f4)] 28 (0, 0)) (by (with_reducible repeat (first | refine blk_drewN ?_ _ | refine blk_drew ?_ | refine blk_alloc ?_ _)); exact BK137.out)) (below_size (by repeat (first | (with_reducible first | exact HB.out | apply below_alloc | apply pw_below_drewN | apply below_drew1 | refine below_set ?_ GE127.out | refine below_set ?_ GE136.out | refine below_set ?_ GE137.out) | exact HB.out))))
            have n1_ := Aside0.mk (blk_below (g := gb127) (o := .cells #[.int .i64 a0_0, .int .i64 a0_1, .int .i64 a0_2] 31 (0, 0)) (by (with_reducible repeat (first | refine blk_drewN ?_ _ | refine blk_drew ?_ | refine blk_alloc ?_ _)); exact BK127.out) hb)
            have n2_ := Aside0.mk (blk_below (g := gb136) (o := .cells #[.int .i64 ((rd_T28 t132 0).f0), .int .i64 ((rd_T28 t132 0).f1), .int .i64 ((rd_T28 t132 0).f2), .int .i64 ((rd_T28 t132 0).f3), .int .i64 ((rd_T28 t132 0).f4)] 28 (0, 0)) (by (with_reducible repeat (first | refine blk_drewN ?_ _ | refine blk_drew ?_ | refine blk_alloc ?_ _)); exact BK136.out) hb)
            have n3_ := Aside0.mk (blk_below (g := gb137) (o := .cells #[.int .i64 ((rd_T28 t132 0).f0), .int .i64 x138001_6, .int .i64 x138002_6, .int .i64 x138003_6, .int .i64 ((rd_T28 t132 0).f4)] 28 (0, 0)) (by (with_reducible repeat (first | refine blk_drewN ?_ _ | refine blk_drew ?_ | refine blk_alloc ?_ _)); exact BK137.out) hb)
            have n4_ := Aside0.mk (below_step (by repeat (first | (with_reducible first | exact HB.out | apply below_alloc | apply pw_below_drewN | apply below_drew1 | refine below_set ?_ GE127.out | refine below_set ?_ GE136.out | refine below_set ?_ GE137.out) | exact HB.out)) hb)
            clear BK127
            clear BK136
            clear BK137
            clear HB
            have HO142 := n0_
            have BK127 := n1_
            have BK136 := n2_
            have BK137 := n3_
            have HB := n4_
            clear n0_ n1_ n2_ n3_ n4_
            clear hb ho58
            obtain ⟨Ao59, co59, eo59⟩ := Kd.R_slice HO142.out
            (first | subst eo59 | (injection eo59 with f1_ f2_ f3_; have f4_ := f1_.symm; have f5_ := f3_.symm; clear f1_ f2_ f3_; subst f4_; subst f5_))
            refine hK.out _ _ ⟨(blk_cell BK137.out 0).trans rfl, (blk_cell BK137.out 1).trans rfl, (blk_cell BK137.out 2).trans rfl, (blk_cell BK137.out 3).trans rfl, (blk_cell BK137.out 4).trans rfl, (blk_cell BK136.out 0).trans rfl, (blk_cell BK136.out 1).trans rfl, (blk_cell BK136.out 2).trans rfl, (blk_cell BK136.out 3).trans rfl, (blk_cell BK136.out 4).trans rfl⟩ (fun hHeld => ?_)
            clear hK K
            refine norm_ (a' := ?_) ?_ ?_
            rotate_left
            · show Act.put _ (some 70) _ = _
              simp only [Act.put, List.setIfInBounds_toArray, List.set_cons_zero, List.set_cons_succ, i64_w, i32_w]
              rfl
            refine one_ (i := 15) (N := some 72) #[true, true, true, true, true, true, true, true, true, true, true, true, true, true, true, true, true, true, false, true, true, false, false, false, false, false] rfl rfl (one_of HT_.out (by kernel_rfl)) (by decide) (fun K hK => ?_)
            refine goes_ Try.func18 (by kernel_rfl) rfl #[.slice Ao59 y140.length co59, .int .i64 (Go.bits .and .i64 a2 1048575)] (by rfl) rfl rfl (by (try simp only [List.map_toArray, List.map_cons, List.map_nil]); first | done | rfl | (simp only [List.length_drop, List.length_take]; rfl)) ?_
            with_reducible refine (demand_Of.calls kj6 _ _ y140 (Go.bits .and .i64 a2 1048575) t143 _ ?side1 ?side2 A51.out).mono ?_
            (case side1 => repeat (first | exact (Kd.R_reads' HO142.out).2.2 | (with_reducible refine Kd.C_alloc ?_ _) | (with_reducible refine Kd.C_drewN ?_ _) | (with_reducible refine Kd.C_drew ?_)))
            (case side2 => exact (Kd.R_reads' HO142.out).2.1)
            rintro e w60 ⟨rfl, hb⟩
            refine ⟨_, rfl, ?_⟩
            have n0_ := Aside0.mk (Kd.R_below (by (with_reducible repeat (first | apply Kd.R_alloc | apply Kd.R_drewN | apply Kd.R_drew)); exact HO142.out) hb)
            have n1_ := Aside0.mk (blk_below (g := gb127) (o := .cells #[.int .i64 a0_0, .int .i64 a0_1, .int .i64 a0_2] 31 (0, 0)) (by (with_reducible repeat (first | refine blk_drewN ?_ _ | refine blk_drew ?_ | refine blk_alloc ?_ _)); exact BK127.out) hb)
            have n2_ := Aside0.mk (blk_below (g := gb136) (o := .cells #[.int .i64 ((rd_T28 t132 0).f0), .int .i64 ((rd_T28 t132 0).f1), .int .i64 ((rd_T28 t132 0).f2), .int .i64 ((rd_T28 t132 0).f3), .int .i64 ((rd_T28 t132 0).f4)] 28 (0, 0)) (by (with_reducible repeat (first | refine blk_drewN ?_ _ | refine blk_drew ?_ | refine blk_alloc ?_ _)); exact BK136.out) hb)
            have n3_ := Aside0.mk (blk_below (g := gb137) (o := .cells #[.int .i64 ((rd_T28 t132 0).f0), .int .i64 x138001_6, .int .i64 x138002_6, .int .i64 x138003_6, .int .i64 ((rd_T28 t132 0).f4)] 28 (0, 0)) (by (with_reducible repeat (first | refine blk_drewN ?_ _ | refine blk_drew ?_ | refine blk_alloc ?_ _)); exact BK137.out) hb)
            have n4_ := Aside0.mk (below_step (by repeat (first | (with_reducible first | exact HB.out | apply below_alloc | apply pw_below_drewN | apply below_drew1 | refine below_set ?_ GE127.out | refine below_set ?_ GE136.out | refine below_set ?_ GE137.out) | exact HB.out)) hb)
            clear HO142
            clear BK127
            clear BK136
            clear BK137
            clear HB
            have HO142 := n0_
            have BK127 := n1_
            have BK136 := n2_
            have BK137 := n3_
            have HB := n4_
            clear n0_ n1_ n2_ n3_ n4_
            (try clear hb)
            (try clear hb2)
            (try clear hk)
            (try clear hi)
            refine hK.out _ _ ⟨(blk_cell BK137.out 0).trans rfl, (blk_cell BK137.out 1).trans rfl, (blk_cell BK137.out 2).trans rfl, (blk_cell BK137.out 3).trans rfl, (blk_cell BK137.out 4).trans rfl, (blk_cell BK136.out 0).trans rfl, (blk_cell BK136.out 1).trans rfl, (blk_cell BK136.out 2).trans rfl, (blk_cell BK136.out 3).trans rfl, (blk_cell BK136.out 4).trans rfl⟩ (fun hHeld => ?_)
            clear hK K
            refine norm_ (a' := ?_) ?_ ?_
            rotate_left
            · show Act.put _ (some 72) _ = _
              simp only [Act.put, List.setIfInBounds_toArray, List.set_cons_zero, List.set_cons_succ, i64_w, i32_w]
              rfl
            refine one_ (i := 18) (N := some 75) #[true, true, true, true, true, true, true, true, true, true, true, true, true, true, true, true, true, true, true, true, true, false, false, false, false, false] rfl rfl (one_of HT_.out (by kernel_rfl)) (by decide) (fun K hK => ?_)
            refine goes_ Try.func17 (by kernel_rfl) rfl #[.agg #[.int .i64 ((rd_T28 t132 0).f0), .int .i64 x138001_6, .int .i64 x138002_6, .int .i64 x138003_6, .int .i64 ((rd_T28 t132 0).f4)], .int .i64 (Go.bits .and .i64 a2 1048575)] (by rfl) rfl rfl (by (try simp only [List.map_toArray, List.map_cons, List.map_nil]); first | done | rfl | (simp only [List.length_drop, List.length_take]; rfl)) ?_
            with_reducible refine (demand_One.calls kj6 ((rd_T28 t132 0).f0) x138001_6 x138002_6 x138003_6 ((rd_T28 t132 0).f4) (Go.bits .and .i64 a2 1048575) t144 _ A52.out).mono ?_
            rintro e w61 ⟨rfl, hb⟩
            refine ⟨_, rfl, ?_⟩
            have n0_ := Aside0.mk (Kd.R_below (by (with_reducible repeat (first | apply Kd.R_alloc | apply Kd.R_drewN | apply Kd.R_drew)); exact HO142.out) hb)
            have n1_ := Aside0.mk (blk_below (g := gb127) (o := .cells #[.int .i64 a0_0, .int .i64 a0_1, .int .i64 a0_2] 31 (0, 0)) (by (with_reducible repeat (first | refine blk_drewN ?_ _ | refine blk_drew ?_ | refine blk_alloc ?_ _)); exact BK127.out) hb)
            have n2_ := Aside0.mk (blk_below (g := gb136) (o := .cells #[.int .i64 ((rd_T28 t132 0).f0), .int .i64 ((rd_T28 t132 0).f1), .int .i64 ((rd_T28 t132 0).f2), .int .i64 ((rd_T28 t132 0).f3), .int .i64 ((rd_T28 t132 0).f4)] 28 (0, 0)) (by (with_reducible repeat (first | refine blk_drewN ?_ _ | refine blk_drew ?_ | refine blk_alloc ?_ _)); exact BK136.out) hb)
            have n3_ := Aside0.mk (blk_below (g := gb137) (o := .cells #[.int .i64 ((rd_T28 t132 0).f0), .int .i64 x138001_6, .int .i64 x138002_6, .int .i64 x138003_6, .int .i64 ((rd_T28 t132 0).f4)] 28 (0, 0)) (by (with_reducible repeat (first | refine blk_drewN ?_ _ | refine blk_drew ?_ | refine blk_alloc ?_ _)); exact BK137.out) hb)
            have n4_ := Aside0.mk (below_step (by repeat (first | (with_reducible first | exact HB.out | apply below_alloc | apply pw_below_drewN | apply below_drew1 | refine below_set ?_ GE127.out | refine below_set ?_ GE136.out | refine below_set ?_ GE137.out) | exact HB.out)) hb)
            clear HO142
            clear BK127
            clear BK136
            clear BK137
            clear HB
            have HO142 := n0_
            have BK127 := n1_
            have BK136 := n2_
            have BK137 := n3_
            have HB := n4_
            clear n0_ n1_ n2_ n3_ n4_
            (try clear hb)
            (try clear hb2)
            (try clear hk)
            (try clear hi)
            refine hK.out _ _ ⟨(blk_cell BK137.out 0).trans rfl, (blk_cell BK137.out 1).trans rfl, (blk_cell BK137.out 2).trans rfl, (blk_cell BK137.out 3).trans rfl, (blk_cell BK137.out 4).trans rfl, (blk_cell BK136.out 0).trans rfl, (blk_cell BK136.out 1).trans rfl, (blk_cell BK136.out 2).trans rfl, (blk_cell BK136.out 3).trans rfl, (blk_cell BK136.out 4).trans rfl⟩ (fun hHeld => ?_)
            clear hK K
            refine norm_ (a' := ?_) ?_ ?_
            rotate_left
            · show Act.put _ (some 75) _ = _
              simp only [Act.put, List.setIfInBounds_toArray, List.set_cons_zero, List.set_cons_succ, i64_w, i32_w]
              rfl
            refine one_ (i := 21) (N := some 78) #[true, true, true, true, true, true, true, true, true, true, true, true, true, true, true, true, true, true, true, true, true, true, false, false, false, false] rfl rfl (one_of HT_.out (by kernel_rfl)) (by decide) (fun K hK => ?_)
            refine goes_ Try.func17 (by kernel_rfl) rfl #[.agg #[.int .i64 ((rd_T28 t132 0).f0), .int .i64 ((rd_T28 t132 0).f1), .int .i64 ((rd_T28 t132 0).f2), .int .i64 ((rd_T28 t132 0).f3), .int .i64 ((rd_T28 t132 0).f4)], .int .i64 (Go.bits .and .i64 a2 1048575)] (by rfl) rfl rfl (by (try simp only [List.map_toArray, List.map_cons, List.map_nil]); first | done | rfl | (simp only [List.length_drop, List.length_take]; rfl)) ?_
            with_reducible refine (demand_One.calls kj6 ((rd_T28 t132 0).f0) ((rd_T28 t132 0).f1) ((rd_T28 t132 0).f2) ((rd_T28 t132 0).f3) ((rd_T28 t132 0).f4) (Go.bits .and .i64 a2 1048575) t145 _ A53.out).mono ?_
            rintro e w62 ⟨rfl, hb⟩
            refine ⟨_, rfl, ?_⟩
            have n0_ := Aside0.mk (Kd.R_below (by (with_reducible repeat (first | apply Kd.R_alloc | apply Kd.R_drewN | apply Kd.R_drew)); exact HO142.out) hb)
            have n1_ := Aside0.mk (blk_below (g := gb127) (o := .cells #[.int .i64 a0_0, .int .i64 a0_1, .int .i64 a0_2] 31 (0, 0)) (by (with_reducible repeat (first | refine blk_drewN ?_ _ | refine blk_drew ?_ | refine blk_alloc ?_ _)); exact BK127.out) hb)
            have n2_ := Aside0.mk (blk_below (g := gb136) (o := .cells #[.int .i64 ((rd_T28 t132 0).f0), .int .i64 ((rd_T28 t132 0).f1), .int .i64 ((rd_T28 t132 0).f2), .int .i64 ((rd_T28 t132 0).f3), .int .i64 ((rd_T28 t132 0).f4)] 28 (0, 0)) (by (with_reducible repeat (first | refine blk_drewN ?_ _ | refine blk_drew ?_ | refine blk_alloc ?_ _)); exact BK136.out) hb)
            have n3_ := Aside0.mk (blk_below (g := gb137) (o := .cells #[.int .i64 ((rd_T28 t132 0).f0), .int .i64 x138001_6, .int .i64 x138002_6, .int .i64 x138003_6, .int .i64 ((rd_T28 t132 0).f4)] 28 (0, 0)) (by (with_reducible repeat (first | refine blk_drewN ?_ _ | refine blk_drew ?_ | refine blk_alloc ?_ _)); exact BK137.out) hb)
            have n4_ := Aside0.mk (below_step (by repeat (first | (with_reducible first | exact HB.out | apply below_alloc | apply pw_below_drewN | apply below_drew1 | refine below_set ?_ GE127.out | refine below_set ?_ GE136.out | refine below_set ?_ GE137.out) | exact HB.out)) hb)
            clear HO142
            clear BK127
            clear BK136
            clear BK137
            clear HB
            have HO142 := n0_
            have BK127 := n1_
            have BK136 := n2_
            have BK137 := n3_
            have HB := n4_
            clear n0_ n1_ n2_ n3_ n4_
            (try clear hb)
            (try clear hb2)
            (try clear hk)
            (try clear hi)
            refine hK.out _ _ ⟨(blk_cell BK137.out 0).trans rfl, (blk_cell BK137.out 1).trans rfl, (blk_cell BK137.out 2).trans rfl, (blk_cell BK137.out 3).trans rfl, (blk_cell BK137.out 4).trans rfl, (blk_cell BK136.out 0).trans rfl, (blk_cell BK136.out 1).trans rfl, (blk_cell BK136.out 2).trans rfl, (blk_cell BK136.out 3).trans rfl, (blk_cell BK136.out 4).trans rfl⟩ (fun hHeld => ?_)
            clear hK K
            refine norm_ (a' := ?_) ?_ ?_
            rotate_left
            · show Act.put _ (some 78) _ = _
              simp only [Act.put, List.setIfInBounds_toArray, List.set_cons_zero, List.set_cons_succ, i64_w, i32_w]
              rfl
            refine pure_ (i := 22) (N := some 79) (v := ?_) (a' := ?_) #[true, true, true, true, true, true, true, true, true, true, true, true, true, true, true, true, true, true, true, true, true, true, true, false, false, false] rfl rfl (any_of HT_.out (by kernel_rfl)) (fun _ _ _ h => h) (Or.inl ⟨by rfl, ?_⟩) ?_ ?_
            rotate_left
            · intro w'
              go_simp
              with_reducible rfl
            rotate_left
            · simp only [Act.put, List.setIfInBounds_toArray, List.set_cons_zero, List.set_cons_succ, i64_w, i32_w]
              rfl
            refine pure_ (i := 23) (N := some 80) (v := ?_) (a' := ?_) #[true, true, true, true, true, true, true, true, true, true, true, true, true, true, true, true, true, true, true, true, true, true, true, true, false, false] rfl rfl (any_of HT_.out (by kernel_rfl)) (fun _ _ _ h => h) (Or.inl ⟨by rfl, ?_⟩) ?_ ?_
            rotate_left
            · intro w'
              go_simp
              with_reducible rfl
            rotate_left
            · simp only [Act.put, List.setIfInBounds_toArray, List.set_cons_zero, List.set_cons_succ, i64_w, i32_w]
              rfl
            refine pure_ (i := 24) (N := some 81) (v := ?_) (a' := ?_) #[true, true, true, true, true, true, true, true, true, true, true, true, true, true, true, true, true, true, true, true, true, true, true, true, true, false] rfl rfl (any_of HT_.out (by kernel_rfl)) (fun _ _ _ h => h) (Or.inl ⟨by rfl, ?_⟩) ?_ ?_
            rotate_left
            · intro w'
              go_simp
              with_reducible rfl
            rotate_left
            · simp only [Act.put, List.setIfInBounds_toArray, List.set_cons_zero, List.set_cons_succ, i64_w, i32_w]
              rfl
            refine pure_ (i := 25) (N := some 6) (v := ?_) (a' := ?_) #[true, true, true, true, true, true, true, true, true, true, true, true, true, true, true, true, true, true, true, true, true, true, true, true, true, true] rfl rfl (any_of HT_.out (by kernel_rfl)) (fun _ _ _ h => h) (Or.inl ⟨by rfl, ?_⟩) ?_ ?_
            rotate_left
            · intro w'
              go_simp
              with_reducible rfl
            rotate_left
            · simp only [Act.put, List.setIfInBounds_toArray, List.set_cons_zero, List.set_cons_succ, i64_w, i32_w]
              rfl
            refine done_ (done_of HT_.out (by kernel_rfl)) ?_
            try go_wp2
            go_ret
            exact ⟨by first | rfl | (simp [errW_none, errW_some] <;> rfl) | (simp [*, errW_none, errW_some] <;> rfl), by repeat (first | (with_reducible first | exact HB.out | apply below_alloc | apply pw_below_drewN | apply below_drew1 | refine below_set ?_ GE127.out | refine below_set ?_ GE136.out | refine below_set ?_ GE137.out) | exact HB.out)⟩
          · rw [if_neg c50] at H
            have c50b0 : decide (t139 ≤ t138) = false := decide_eq_false c50
            clear c50
            obtain rfl := Option.some.inj H
            try go_wp2
            have n0_ := Aside0.mk (blk_drew BK127.out)
            have n1_ := Aside0.mk (blk_drew BK136.out)
            have n2_ := Aside0.mk (blk_drew BK137.out)
            have n3_ := Aside0.mk (below_drew1 HB.out)
            clear BK127
            clear BK136
            clear BK137
            clear HB
            have BK127 := n0_
            have BK136 := n1_
            have BK137 := n2_
            have HB := n3_
            clear n0_ n1_ n2_ n3_
            refine start_ (n := 26) (S := fun w' => w'.cell? ⟨gb137, 0, none⟩ = some (.int .i64 ((rd_T28 t132 0).f0)) ∧ w'.cell? ⟨gb137, 1, none⟩ = some (.int .i64 x138001_6) ∧ w'.cell? ⟨gb137, 2, none⟩ = some (.int .i64 x138002_6) ∧ w'.cell? ⟨gb137, 3, none⟩ = some (.int .i64 x138003_6) ∧ w'.cell? ⟨gb137, 4, none⟩ = some (.int .i64 ((rd_T28 t132 0).f4)) ∧ w'.cell? ⟨gb136, 0, none⟩ = some (.int .i64 ((rd_T28 t132 0).f0)) ∧ w'.cell? ⟨gb136, 1, none⟩ = some (.int .i64 ((rd_T28 t132 0).f1)) ∧ w'.cell? ⟨gb136, 2, none⟩ = some (.int .i64 ((rd_T28 t132 0).f2)) ∧ w'.cell? ⟨gb136, 3, none⟩ = some (.int .i64 ((rd_T28 t132 0).f3)) ∧ w'.cell? ⟨gb136, 4, none⟩ = some (.int .i64 ((rd_T28 t132 0).f4))) (ds := []) #[false, false, false, false, false, false, false, false, false, false, false, false, false, false, false, false, false, false, false, false, false, false, false, false, false, false] (by kernel_rfl) rfl rfl ⟨(blk_cell BK137.out 0).trans rfl, (blk_cell BK137.out 1).trans rfl, (blk_cell BK137.out 2).trans rfl, (blk_cell BK137.out 3).trans rfl, (blk_cell BK137.out 4).trans rfl, (blk_cell BK136.out 0).trans rfl, (blk_cell BK136.out 1).trans rfl, (blk_cell BK136.out 2).trans rfl, (blk_cell BK136.out 3).trans rfl, (blk_cell BK136.out 4).trans rfl⟩ (fun hHeld => ?_); refine with_tabW horariumlaw10_DemandMore.tab15 horariumlaw10_DemandMore.bits15 (fun HT_ HW_ => ?_)
            generalize wc.drew = w63 at BK127 BK136 BK137 HB hHeld ⊢
            refine pure_ (i := 0) (N := some 57) (v := ?_) (a' := ?_) #[true, false, false, false, false, false, false, false, false, false, false, false, false, false, false, false, false, false, false, false, false, false, false, false, false, false] rfl rfl (any_of HT_.out (by kernel_rfl)) (fun _ _ _ h => h) (Or.inl ⟨by rfl, ?_⟩) ?_ ?_
            rotate_left
            · intro w'
              go_simp
              with_reducible rfl
            rotate_left
            · simp only [Act.put, List.setIfInBounds_toArray, List.set_cons_zero, List.set_cons_succ, i64_w, i32_w]
              rfl
            refine pure_ (i := 1) (N := some 58) (v := ?_) (a' := ?_) #[true, true, false, false, false, false, false, false, false, false, false, false, false, false, false, false, false, false, false, false, false, false, false, false, false, false] rfl rfl (any_of HT_.out (by kernel_rfl)) (fun _ _ _ h => h) (Or.inl ⟨by rfl, ?_⟩) ?_ ?_
            rotate_left
            · intro w'
              go_simp
              with_reducible rfl
            rotate_left
            · simp only [Act.put, List.setIfInBounds_toArray, List.set_cons_zero, List.set_cons_succ, i64_w, i32_w]
              rfl
            refine pure_ (i := 3) (N := some 60) (v := ?_) (a' := ?_) #[true, true, false, true, false, false, false, false, false, false, false, false, false, false, false, false, false, false, false, false, false, false, false, false, false, false] rfl rfl (any_of HT_.out (by kernel_rfl)) (fun _ _ _ h => h) (Or.inl ⟨by rfl, ?_⟩) ?_ ?_
            rotate_left
            · intro w'
              go_simp
              with_reducible rfl
            rotate_left
            · simp only [Act.put, List.setIfInBounds_toArray, List.set_cons_zero, List.set_cons_succ, i64_w, i32_w]
              rfl
            refine pure_ (i := 6) (N := some 63) (v := ?_) (a' := ?_) #[true, true, false, true, false, false, true, false, false, false, false, false, false, false, false, false, false, false, false, false, false, false, false, false, false, false] rfl rfl (any_of HT_.out (by kernel_rfl)) (fun _ _ _ h => h) (Or.inl ⟨by rfl, ?_⟩) ?_ ?_
            rotate_left
            · intro w'
              go_simp
              with_reducible rfl
            rotate_left
            · simp only [Act.put, List.setIfInBounds_toArray, List.set_cons_zero, List.set_cons_succ, i64_w, i32_w]
              rfl
            refine take_ (i := 2) (N := some 59) (v := ?_) (a' := ?_) #[true, true, true, true, false, false, true, false, false, false, false, false, false, false, false, false, false, false, false, false, false, false, false, false, false, false] rfl rfl (take_ofW HT_.out HW_.out (by kernel_rfl)) (fun _ _ _ h => h) (Or.inl ⟨by rfl, ?_⟩) hHeld ?_ ?_
            rotate_left
            · rintro w' ⟨s0, s1, s2, s3, s4, s5, s6, s7, s8, s9⟩
              go_simp
              with_reducible rfl
            rotate_left
            · simp only [Act.put, List.setIfInBounds_toArray, List.set_cons_zero, List.set_cons_succ, i64_w, i32_w]
              rfl
            refine take_ (i := 5) (N := some 62) (v := ?_) (a' := ?_) #[true, true, true, true, false, true, true, false, false, false, false, false, false, false, false, false, false, false, false, false, false, false, false, false, false, false] rfl rfl (take_ofW HT_.out HW_.out (by kernel_rfl)) (fun _ _ _ h => h) (Or.inl ⟨by rfl, ?_⟩) hHeld ?_ ?_
            rotate_left
            · rintro w' ⟨s0, s1, s2, s3, s4, s5, s6, s7, s8, s9⟩
              go_simp
              with_reducible rfl
            rotate_left
            · simp only [Act.put, List.setIfInBounds_toArray, List.set_cons_zero, List.set_cons_succ, i64_w, i32_w]
              rfl
            refine one_ (i := 4) (N := some 61) #[true, true, true, true, true, true, true, false, false, false, false, false, false, false, false, false, false, false, false, false, false, false, false, false, false, false] rfl rfl (one_of HT_.out (by kernel_rfl)) (by decide) (fun K hK => ?_)
            refine goes_ Try.func17 (by kernel_rfl) rfl #[.agg #[.int .i64 ((rd_T28 t132 0).f0), .int .i64 x138001_6, .int .i64 x138002_6, .int .i64 x138003_6, .int .i64 ((rd_T28 t132 0).f4)], .int .i64 (Go.bits .and .i64 a2 1048575)] (by rfl) rfl rfl (by (try simp only [List.map_toArray, List.map_cons, List.map_nil]); first | done | rfl | (simp only [List.length_drop, List.length_take]; rfl)) ?_
            with_reducible refine (demand_One.calls kj6 ((rd_T28 t132 0).f0) x138001_6 x138002_6 x138003_6 ((rd_T28 t132 0).f4) (Go.bits .and .i64 a2 1048575) t138 _ A48.out).mono ?_
            rintro e w64 ⟨rfl, hb⟩
            refine ⟨_, rfl, ?_⟩
            have n0_ := Aside0.mk (blk_below (g := gb127) (o := .cells #[.int .i64 a0_0, .int .i64 a0_1, .int .i64 a0_2] 31 (0, 0)) (by (with_reducible repeat (first | refine blk_drewN ?_ _ | refine blk_drew ?_ | refine blk_alloc ?_ _)); exact BK127.out) hb)
            have n1_ := Aside0.mk (blk_below (g := gb136) (o := .cells #[.int .i64 ((rd_T28 t132 0).f0), .int .i64 ((rd_T28 t132 0).f1), .int .i64 ((rd_T28 t132 0).f2), .int .i64 ((rd_T28 t132 0).f3), .int .i64 ((rd_T28 t132 0).f4)] 28 (0, 0)) (by (with_reducible repeat (first | refine blk_drewN ?_ _ | refine blk_drew ?_ | refine blk_alloc ?_ _)); exact BK136.out) hb)
            have n2_ := Aside0.mk (blk_below (g := gb137) (o := .cells #[.int .i64 ((rd_T28 t132 0).f0), .int .i64 x138001_6, .int .i64 x138002_6, .int .i64 x138003_6, .int .i64 ((rd_T28 t132 0).f4)] 28 (0, 0)) (by (with_reducible repeat (first | refine blk_drewN ?_ _ | refine blk_drew ?_ | refine blk_alloc ?_ _)); exact BK137.out) hb)
            have n3_ := Aside0.mk (below_step (by repeat (first | (with_reducible first | exact HB.out | apply below_alloc | apply pw_below_drewN | apply below_drew1 | refine below_set ?_ GE127.out | refine below_set ?_ GE136.out | refine below_set ?_ GE137.out) | exact HB.out)) hb)
            clear BK127
            clear BK136
            clear BK137
            clear HB
            have BK127 := n0_
            have BK136 := n1_
            have BK137 := n2_
            have HB := n3_
            clear n0_ n1_ n2_ n3_
            (try clear hb)
            (try clear hb2)
            (try clear hk)
            (try clear hi)
            refine hK.out _ _ ⟨(blk_cell BK137.out 0).trans rfl, (blk_cell BK137.out 1).trans rfl, (blk_cell BK137.out 2).trans rfl, (blk_cell BK137.out 3).trans rfl, (blk_cell BK137.out 4).trans rfl, (blk_cell BK136.out 0).trans rfl, (blk_cell BK136.out 1).trans rfl, (blk_cell BK136.out 2).trans rfl, (blk_cell BK136.out 3).trans rfl, (blk_cell BK136.out 4).trans rfl⟩ (fun hHeld => ?_)
            clear hK K
            refine norm_ (a' := ?_) ?_ ?_
            rotate_left
            · show Act.put _ (some 61) _ = _
              simp only [Act.put, List.setIfInBounds_toArray, List.set_cons_zero, List.set_cons_succ, i64_w, i32_w]
              rfl
            refine one_ (i := 7) (N := some 64) #[true, true, true, true, true, true, true, true, false, false, false, false, false, false, false, false, false, false, false, false, false, false, false, false, false, false] rfl rfl (one_of HT_.out (by kernel_rfl)) (by decide) (fun K hK => ?_)
            refine goes_ Try.func17 (by kernel_rfl) rfl #[.agg #[.int .i64 ((rd_T28 t132 0).f0), .int .i64 ((rd_T28 t132 0).f1), .int .i64 ((rd_T28 t132 0).f2), .int .i64 ((rd_T28 t132 0).f3), .int .i64 ((rd_T28 t132 0).f4)], .int .i64 (Go.bits .and .i64 a2 1048575)] (by rfl) rfl rfl (by (try simp only [List.map_toArray, List.map_cons, List.map_nil]); first | done | rfl | (simp only [List.length_drop, List.length_take]; rfl)) ?_
            with_reducible refine (demand_One.calls kj6 ((rd_T28 t132 0).f0) ((rd_T28 t132 0).f1) ((rd_T28 t132 0).f2) ((rd_T28 t132 0).f3) ((rd_T28 t132 0).f4) (Go.bits .and .i64 a2 1048575) t139 _ A49.out).mono ?_
            rintro e w65 ⟨rfl, hb⟩
            refine ⟨_, rfl, ?_⟩
            have n0_ := Aside0.mk (blk_below (g := gb127) (o := .cells #[.int .i64 a0_0, .int .i64 a0_1, .int .i64 a0_2] 31 (0, 0)) (by (with_reducible repeat (first | refine blk_drewN ?_ _ | refine blk_drew ?_ | refine blk_alloc ?_ _)); exact BK127.out) hb)
            have n1_ := Aside0.mk (blk_below (g := gb136) (o := .cells #[.int .i64 ((rd_T28 t132 0).f0), .int .i64 ((rd_T28 t132 0).f1), .int .i64 ((rd_T28 t132 0).f2), .int .i64 ((rd_T28 t132 0).f3), .int .i64 ((rd_T28 t132 0).f4)] 28 (0, 0)) (by (with_reducible repeat (first | refine blk_drewN ?_ _ | refine blk_drew ?_ | refine blk_alloc ?_ _)); exact BK136.out) hb)
            have n2_ := Aside0.mk (blk_below (g := gb137) (o := .cells #[.int .i64 ((rd_T28 t132 0).f0), .int .i64 x138001_6, .int .i64 x138002_6, .int .i64 x138003_6, .int .i64 ((rd_T28 t132 0).f4)] 28 (0, 0)) (by (with_reducible repeat (first | refine blk_drewN ?_ _ | refine blk_drew ?_ | refine blk_alloc ?_ _)); exact BK137.out) hb)
            have n3_ := Aside0.mk (below_step (by repeat (first | (with_reducible first | exact HB.out | apply below_alloc | apply pw_below_drewN | apply below_drew1 | refine below_set ?_ GE127.out | refine below_set ?_ GE136.out | refine below_set ?_ GE137.out) | exact HB.out)) hb)
            clear BK127
            clear BK136
            clear BK137
            clear HB
            have BK127 := n0_
            have BK136 := n1_
            have BK137 := n2_
            have HB := n3_
            clear n0_ n1_ n2_ n3_
            (try clear hb)
            (try clear hb2)
            (try clear hk)
            (try clear hi)
            refine hK.out _ _ ⟨(blk_cell BK137.out 0).trans rfl, (blk_cell BK137.out 1).trans rfl, (blk_cell BK137.out 2).trans rfl, (blk_cell BK137.out 3).trans rfl, (blk_cell BK137.out 4).trans rfl, (blk_cell BK136.out 0).trans rfl, (blk_cell BK136.out 1).trans rfl, (blk_cell BK136.out 2).trans rfl, (blk_cell BK136.out 3).trans rfl, (blk_cell BK136.out 4).trans rfl⟩ (fun hHeld => ?_)
            clear hK K
            refine norm_ (a' := ?_) ?_ ?_
            rotate_left
            · show Act.put _ (some 64) _ = _
              simp only [Act.put, List.setIfInBounds_toArray, List.set_cons_zero, List.set_cons_succ, i64_w, i32_w]
              rfl
            refine pure_ (i := 8) (N := some 65) (v := ?_) (a' := ?_) #[true, true, true, true, true, true, true, true, true, false, false, false, false, false, false, false, false, false, false, false, false, false, false, false, false, false] rfl rfl (any_of HT_.out (by kernel_rfl)) (fun _ _ _ h => h) (Or.inl ⟨by rfl, ?_⟩) ?_ ?_
            rotate_left
            · intro w'
              go_simp
              with_reducible rfl
            rotate_left
            · simp only [Act.put, List.setIfInBounds_toArray, List.set_cons_zero, List.set_cons_succ, i64_w, i32_w]
              rfl
            refine pure_ (i := 9) (N := some 66) (v := ?_) (a' := ?_) #[true, true, true, true, true, true, true, true, true, true, false, false, false, false, false, false, false, false, false, false, false, false, false, false, false, false] rfl rfl (any_of HT_.out (by kernel_rfl)) (fun _ _ _ h => h) (Or.inl ⟨by rfl, ?_⟩) ?_ ?_
            rotate_left
            · intro w'
              go_simp
              with_reducible rfl
            rotate_left
            · simp only [Act.put, List.setIfInBounds_toArray, List.set_cons_zero, List.set_cons_succ, i64_w, i32_w]
              rfl
            refine pure_ (i := 10) (N := some 67) (v := ?_) (a' := ?_) #[true, true, true, true, true, true, true, true, true, true, true, false, false, false, false, false, false, false, false, false, false, false, false, false, false, false] rfl rfl (any_of HT_.out (by kernel_rfl)) (fun _ _ _ h => h) (Or.inl ⟨by rfl, ?_⟩) ?_ ?_
            rotate_left
            · intro w'
              go_simp
              with_reducible rfl
            rotate_left
            · simp only [Act.put, List.setIfInBounds_toArray, List.set_cons_zero, List.set_cons_succ, i64_w, i32_w]
              rfl
            refine pure_ (i := 11) (N := some 68) (v := undef) (a' := ?_) #[true, true, true, true, true, true, true, true, true, true, true, true, false, false, false, false, false, false, false, false, false, false, false, false, false, false] rfl rfl (any_of HT_.out (by kernel_rfl)) (fun _ _ _ h => h) (Or.inr ⟨by rfl, rfl⟩) ?_ ?_
            rotate_left
            · simp only [Act.put, List.setIfInBounds_toArray, List.set_cons_zero, List.set_cons_succ, i64_w, i32_w]
              rfl
            refine pure_ (i := 12) (N := some 69) (v := undef) (a' := ?_) #[true, true, true, true, true, true, true, true, true, true, true, true, true, false, false, false, false, false, false, false, false, false, false, false, false, false] rfl rfl (any_of HT_.out (by kernel_rfl)) (fun _ _ _ h => h) (Or.inr ⟨by rfl, rfl⟩) ?_ ?_
            rotate_left
            · simp only [Act.put, List.setIfInBounds_toArray, List.set_cons_zero, List.set_cons_succ, i64_w, i32_w]
              rfl
            refine pure_ (i := 13) (N := some 70) (v := undef) (a' := ?_) #[true, true, true, true, true, true, true, true, true, true, true, true, true, true, false, false, false, false, false, false, false, false, false, false, false, false] rfl rfl (any_of HT_.out (by kernel_rfl)) (fun _ _ _ h => h) (Or.inr ⟨by rfl, rfl⟩) ?_ ?_
            rotate_left
            · simp only [Act.put, List.setIfInBounds_toArray, List.set_cons_zero, List.set_cons_succ, i64_w, i32_w]
              rfl
            refine pure_ (i := 14) (N := some 71) (v := undef) (a' := ?_) #[true, true, true, true, true, true, true, true, true, true, true, true, true, true, true, false, false, false, false, false, false, false, false, false, false, false] rfl rfl (any_of HT_.out (by kernel_rfl)) (fun _ _ _ h => h) (Or.inr ⟨by rfl, rfl⟩) ?_ ?_
            rotate_left
            · simp only [Act.put, List.setIfInBounds_toArray, List.set_cons_zero, List.set_cons_succ, i64_w, i32_w]
              rfl
            refine pure_ (i := 15) (N := some 72) (v := undef) (a' := ?_) #[true, true, true, true, true, true, true, true, true, true, true, true, true, true, true, true, false, false, false, false, false, false, false, false, false, false] rfl rfl (any_of HT_.out (by kernel_rfl)) (fun _ _ _ h => h) (Or.inr ⟨by rfl, rfl⟩) ?_ ?_
            rotate_left
            · simp only [Act.put, List.setIfInBounds_toArray, List.set_cons_zero, List.set_cons_succ, i64_w, i32_w]
              rfl
            refine pure_ (i := 16) (N := some 73) (v := undef) (a' := ?_) #[true, true, true, true, true, true, true, true, true, true, true, true, true, true, true, true, true, false, false, false, false, false, false, false, false, false] rfl rfl (any_of HT_.out (by kernel_rfl)) (fun _ _ _ h => h) (Or.inr ⟨by rfl, rfl⟩) ?_ ?_
            rotate_left
            · simp only [Act.put, List.setIfInBounds_toArray, List.set_cons_zero, List.set_cons_succ, i64_w, i32_w]
              rfl
            refine pure_ (i := 17) (N := some 74) (v := undef) (a' := ?_) #[true, true, true, true, true, true, true, true, true, true, true, true, true, true, true, true, true, true, false, false, false, false, false, false, false, false] rfl rfl (any_of HT_.out (by kernel_rfl)) (fun _ _ _ h => h) (Or.inr ⟨by rfl, rfl⟩) ?_ ?_
            rotate_left
            · simp only [Act.put, List.setIfInBounds_toArray, List.set_cons_zero, List.set_cons_succ, i64_w, i32_w]
              rfl
            refine pure_ (i := 18) (N := some 75) (v := undef) (a' := ?_) #[true, true, true, true, true, true, true, true, true, true, true, true, true, true, true, true, true, true, true, false, false, false, false, false, false, false] rfl rfl (any_of HT_.out (by kernel_rfl)) (fun _ _ _ h => h) (Or.inr ⟨by rfl, rfl⟩) ?_ ?_
            rotate_left
            · simp only [Act.put, List.setIfInBounds_toArray, List.set_cons_zero, List.set_cons_succ, i64_w, i32_w]
              rfl
            refine pure_ (i := 19) (N := some 76) (v := undef) (a' := ?_) #[true, true, true, true, true, true, true, true, true, true, true, true, true, true, true, true, true, true, true, true, false, false, false, false, false, false] rfl rfl (any_of HT_.out (by kernel_rfl)) (fun _ _ _ h => h) (Or.inr ⟨by rfl, rfl⟩) ?_ ?_
            rotate_left
            · simp only [Act.put, List.setIfInBounds_toArray, List.set_cons_zero, List.set_cons_succ, i64_w, i32_w]
              rfl
            refine pure_ (i := 20) (N := some 77) (v := undef) (a' := ?_) #[true, true, true, true, true, true, true, true, true, true, true, true, true, true, true, true, true, true, true, true, true, false, false, false, false, false] rfl rfl (any_of HT_.out (by kernel_rfl)) (fun _ _ _ h => h) (Or.inr ⟨by rfl, rfl⟩) ?_ ?_
            rotate_left
            · simp only [Act.put, List.setIfInBounds_toArray, List.set_cons_zero, List.set_cons_succ, i64_w, i32_w]
              rfl
            refine pure_ (i := 21) (N := some 78) (v := undef) (a' := ?_) #[true, true, true, true, true, true, true, true, true, true, true, true, true, true, true, true, true, true, true, true, true, true, false, false, false, false] rfl rfl (any_of HT_.out (by kernel_rfl)) (fun _ _ _ h => h) (Or.inr ⟨by rfl, rfl⟩) ?_ ?_
            rotate_left
            · simp only [Act.put, List.setIfInBounds_toArray, List.set_cons_zero, List.set_cons_succ, i64_w, i32_w]
              rfl
            refine pure_ (i := 22) (N := some 79) (v := undef) (a' := ?_) #[true, true, true, true, true, true, true, true, true, true, true, true, true, true, true, true, true, true, true, true, true, true, true, false, false, false] rfl rfl (any_of HT_.out (by kernel_rfl)) (fun _ _ _ h => h) (Or.inr ⟨by rfl, rfl⟩) ?_ ?_
            rotate_left
            · simp only [Act.put, List.setIfInBounds_toArray, List.set_cons_zero, List.set_cons_succ, i64_w, i32_w]
              rfl
            refine pure_ (i := 23) (N := some 80) (v := undef) (a' := ?_) #[true, true, true, true, true, true, true, true, true, true, true, true, true, true, true, true, true, true, true, true, true, true, true, true, false, false] rfl rfl (any_of HT_.out (by kernel_rfl)) (fun _ _ _ h => h) (Or.inr ⟨by rfl, rfl⟩) ?_ ?_
            rotate_left
            · simp only [Act.put, List.setIfInBounds_toArray, List.set_cons_zero, List.set_cons_succ, i64_w, i32_w]
              rfl
            refine pure_ (i := 24) (N := some 81) (v := ?_) (a' := ?_) #[true, true, true, true, true, true, true, true, true, true, true, true, true, true, true, true, true, true, true, true, true, true, true, true, true, false] rfl rfl (any_of HT_.out (by kernel_rfl)) (fun _ _ _ h => h) (Or.inl ⟨by rfl, ?_⟩) ?_ ?_
            rotate_left
            · intro w'
              go_simp
              with_reducible rfl
            rotate_left
            · simp only [Act.put, List.setIfInBounds_toArray, List.set_cons_zero, List.set_cons_succ, i64_w, i32_w]
              rfl
            refine pure_ (i := 25) (N := some 6) (v := ?_) (a' := ?_) #[true, true, true, true, true, true, true, true, true, true, true, true, true, true, true, true, true, true, true, true, true, true, true, true, true, true] rfl rfl (any_of HT_.out (by kernel_rfl)) (fun _ _ _ h => h) (Or.inl ⟨by rfl, ?_⟩) ?_ ?_
            rotate_left
            · intro w'
              go_simp
              with_reducible rfl
            rotate_left
            · simp only [Act.put, List.setIfInBounds_toArray, List.set_cons_zero, List.set_cons_succ, i64_w, i32_w]
              rfl
            refine done_ (done_of HT_.out (by kernel_rfl)) ?_
            try go_wp2
            go_ret
            exact ⟨by first | rfl | (simp [errW_none, errW_some] <;> rfl) | (simp [*, errW_none, errW_some] <;> rfl), by repeat (first | (with_reducible first | exact HB.out | apply below_alloc | apply pw_below_drewN | apply below_drew1 | refine below_set ?_ GE127.out | refine below_set ?_ GE136.out | refine below_set ?_ GE137.out) | exact HB.out)⟩
        · replace c47 := Bool.eq_false_iff.mpr c47
          subst c47
          have H1 : (some false) = some r := by rw [if_neg (show ¬ (false = true) by decide)] at H; exact H
          clear H
          have H := H1
          clear H1
          obtain rfl := Option.some.inj H
          try go_wp2
          have n0_ := Aside0.mk (blk_drew BK127.out)
          have n1_ := Aside0.mk (blk_drew BK136.out)
          have n2_ := Aside0.mk (blk_drew BK137.out)
          have n3_ := Aside0.mk (below_drew1 HB.out)
          clear BK127
          clear BK136
          clear BK137
          clear HB
          have BK127 := n0_
          have BK136 := n1_
          have BK137 := n2_
          have HB := n3_
          clear n0_ n1_ n2_ n3_
          refine start_ (n := 26) (S := fun w' => True) (ds := []) #[false, false, false, false, false, false, false, false, false, false, false, false, false, false, false, false, false, false, false, false, false, false, false, false, false, false] (by kernel_rfl) rfl rfl trivial (fun hHeld => ?_); refine with_tabW horariumlaw10_DemandMore.tab15 horariumlaw10_DemandMore.bits15 (fun HT_ HW_ => ?_)
          generalize wc.drew = w66 at BK127 BK136 BK137 HB hHeld ⊢
          refine pure_ (i := 0) (N := some 57) (v := ?_) (a' := ?_) #[true, false, false, false, false, false, false, false, false, false, false, false, false, false, false, false, false, false, false, false, false, false, false, false, false, false] rfl rfl (any_of HT_.out (by kernel_rfl)) (fun _ _ _ h => h) (Or.inl ⟨by rfl, ?_⟩) ?_ ?_
          rotate_left
          · intro w'
            go_simp
            with_reducible rfl
          rotate_left
          · simp only [Act.put, List.setIfInBounds_toArray, List.set_cons_zero, List.set_cons_succ, i64_w, i32_w]
            rfl
          refine pure_ (i := 1) (N := some 58) (v := ?_) (a' := ?_) #[true, true, false, false, false, false, false, false, false, false, false, false, false, false, false, false, false, false, false, false, false, false, false, false, false, false] rfl rfl (any_of HT_.out (by kernel_rfl)) (fun _ _ _ h => h) (Or.inl ⟨by rfl, ?_⟩) ?_ ?_
          rotate_left
          · intro w'
            go_simp
            with_reducible rfl
          rotate_left
          · simp only [Act.put, List.setIfInBounds_toArray, List.set_cons_zero, List.set_cons_succ, i64_w, i32_w]
            rfl
          refine pure_ (i := 2) (N := some 59) (v := undef) (a' := ?_) #[true, true, true, false, false, false, false, false, false, false, false, false, false, false, false, false, false, false, false, false, false, false, false, false, false, false] rfl rfl (any_of HT_.out (by kernel_rfl)) (fun _ _ _ h => h) (Or.inr ⟨by rfl, rfl⟩) ?_ ?_
          rotate_left
          · simp only [Act.put, List.setIfInBounds_toArray, List.set_cons_zero, List.set_cons_succ, i64_w, i32_w]
            rfl
          refine pure_ (i := 3) (N := some 60) (v := undef) (a' := ?_) #[true, true, true, true, false, false, false, false, false, false, false, false, false, false, false, false, false, false, false, false, false, false, false, false, false, false] rfl rfl (any_of HT_.out (by kernel_rfl)) (fun _ _ _ h => h) (Or.inr ⟨by rfl, rfl⟩) ?_ ?_
          rotate_left
          · simp only [Act.put, List.setIfInBounds_toArray, List.set_cons_zero, List.set_cons_succ, i64_w, i32_w]
            rfl
          refine pure_ (i := 4) (N := some 61) (v := undef) (a' := ?_) #[true, true, true, true, true, false, false, false, false, false, false, false, false, false, false, false, false, false, false, false, false, false, false, false, false, false] rfl rfl (any_of HT_.out (by kernel_rfl)) (fun _ _ _ h => h) (Or.inr ⟨by rfl, rfl⟩) ?_ ?_
          rotate_left
          · simp only [Act.put, List.setIfInBounds_toArray, List.set_cons_zero, List.set_cons_succ, i64_w, i32_w]
            rfl
          refine pure_ (i := 5) (N := some 62) (v := undef) (a' := ?_) #[true, true, true, true, true, true, false, false, false, false, false, false, false, false, false, false, false, false, false, false, false, false, false, false, false, false] rfl rfl (any_of HT_.out (by kernel_rfl)) (fun _ _ _ h => h) (Or.inr ⟨by rfl, rfl⟩) ?_ ?_
          rotate_left
          · simp only [Act.put, List.setIfInBounds_toArray, List.set_cons_zero, List.set_cons_succ, i64_w, i32_w]
            rfl
          refine pure_ (i := 6) (N := some 63) (v := undef) (a' := ?_) #[true, true, true, true, true, true, true, false, false, false, false, false, false, false, false, false, false, false, false, false, false, false, false, false, false, false] rfl rfl (any_of HT_.out (by kernel_rfl)) (fun _ _ _ h => h) (Or.inr ⟨by rfl, rfl⟩) ?_ ?_
          rotate_left
          · simp only [Act.put, List.setIfInBounds_toArray, List.set_cons_zero, List.set_cons_succ, i64_w, i32_w]
            rfl
          refine pure_ (i := 7) (N := some 64) (v := undef) (a' := ?_) #[true, true, true, true, true, true, true, true, false, false, false, false, false, false, false, false, false, false, false, false, false, false, false, false, false, false] rfl rfl (any_of HT_.out (by kernel_rfl)) (fun _ _ _ h => h) (Or.inr ⟨by rfl, rfl⟩) ?_ ?_
          rotate_left
          · simp only [Act.put, List.setIfInBounds_toArray, List.set_cons_zero, List.set_cons_succ, i64_w, i32_w]
            rfl
          refine pure_ (i := 8) (N := some 65) (v := undef) (a' := ?_) #[true, true, true, true, true, true, true, true, true, false, false, false, false, false, false, false, false, false, false, false, false, false, false, false, false, false] rfl rfl (any_of HT_.out (by kernel_rfl)) (fun _ _ _ h => h) (Or.inr ⟨by rfl, rfl⟩) ?_ ?_
          rotate_left
          · simp only [Act.put, List.setIfInBounds_toArray, List.set_cons_zero, List.set_cons_succ, i64_w, i32_w]
            rfl
          refine pure_ (i := 9) (N := some 66) (v := ?_) (a' := ?_) #[true, true, true, true, true, true, true, true, true, true, false, false, false, false, false, false, false, false, false, false, false, false, false, false, false, false] rfl rfl (any_of HT_.out (by kernel_rfl)) (fun _ _ _ h => h) (Or.inl ⟨by rfl, ?_⟩) ?_ ?_
          rotate_left
          · intro w'
            go_simp
            with_reducible rfl
          rotate_left
          · simp only [Act.put, List.setIfInBounds_toArray, List.set_cons_zero, List.set_cons_succ, i64_w, i32_w]
            rfl
          refine pure_ (i := 10) (N := some 67) (v := ?_) (a' := ?_) #[true, true, true, true, true, true, true, true, true, true, true, false, false, false, false, false, false, false, false, false, false, false, false, false, false, false] rfl rfl (any_of HT_.out (by kernel_rfl)) (fun _ _ _ h => h) (Or.inl ⟨by rfl, ?_⟩) ?_ ?_
          rotate_left
          · intro w'
            go_simp
            with_reducible rfl
          rotate_left
          · simp only [Act.put, List.setIfInBounds_toArray, List.set_cons_zero, List.set_cons_succ, i64_w, i32_w]
            rfl
          refine pure_ (i := 11) (N := some 68) (v := undef) (a' := ?_) #[true, true, true, true, true, true, true, true, true, true, true, true, false, false, false, false, false, false, false, false, false, false, false, false, false, false] rfl rfl (any_of HT_.out (by kernel_rfl)) (fun _ _ _ h => h) (Or.inr ⟨by rfl, rfl⟩) ?_ ?_
          rotate_left
          · simp only [Act.put, List.setIfInBounds_toArray, List.set_cons_zero, List.set_cons_succ, i64_w, i32_w]
            rfl
          refine pure_ (i := 12) (N := some 69) (v := undef) (a' := ?_) #[true, true, true, true, true, true, true, true, true, true, true, true, true, false, false, false, false, false, false, false, false, false, false, false, false, false] rfl rfl (any_of HT_.out (by kernel_rfl)) (fun _ _ _ h => h) (Or.inr ⟨by rfl, rfl⟩) ?_ ?_
          rotate_left
          · simp only [Act.put, List.setIfInBounds_toArray, List.set_cons_zero, List.set_cons_succ, i64_w, i32_w]
            rfl
          refine pure_ (i := 13) (N := some 70) (v := undef) (a' := ?_) #[true, true, true, true, true, true, true, true, true, true, true, true, true, true, false, false, false, false, false, false, false, false, false, false, false, false] rfl rfl (any_of HT_.out (by kernel_rfl)) (fun _ _ _ h => h) (Or.inr ⟨by rfl, rfl⟩) ?_ ?_
          rotate_left
          · simp only [Act.put, List.setIfInBounds_toArray, List.set_cons_zero, List.set_cons_succ, i64_w, i32_w]
            rfl
          refine pure_ (i := 14) (N := some 71) (v := undef) (a' := ?_) #[true, true, true, true, true, true, true, true, true, true, true, true, true, true, true, false, false, false, false, false, false, false, false, false, false, false] rfl rfl (any_of HT_.out (by kernel_rfl)) (fun _ _ _ h => h) (Or.inr ⟨by rfl, rfl⟩) ?_ ?_
          rotate_left
          · simp only [Act.put, List.setIfInBounds_toArray, List.set_cons_zero, List.set_cons_succ, i64_w, i32_w]
            rfl
          refine pure_ (i := 15) (N := some 72) (v := undef) (a' := ?_) #[true, true, true, true, true, true, true, true, true, true, true, true, true, true, true, true, false, false, false, false, false, false, false, false, false, false] rfl rfl (any_of HT_.out (by kernel_rfl)) (fun _ _ _ h => h) (Or.inr ⟨by rfl, rfl⟩) ?_ ?_
          rotate_left
          · simp only [Act.put, List.setIfInBounds_toArray, List.set_cons_zero, List.set_cons_succ, i64_w, i32_w]
            rfl
          refine pure_ (i := 16) (N := some 73) (v := undef) (a' := ?_) #[true, true, true, true, true, true, true, true, true, true, true, true, true, true, true, true, true, false, false, false, false, false, false, false, false, false] rfl rfl (any_of HT_.out (by kernel_rfl)) (fun _ _ _ h => h) (Or.inr ⟨by rfl, rfl⟩) ?_ ?_
          rotate_left
          · simp only [Act.put, List.setIfInBounds_toArray, List.set_cons_zero, List.set_cons_succ, i64_w, i32_w]
            rfl
          refine pure_ (i := 17) (N := some 74) (v := undef) (a' := ?_) #[true, true, true, true, true, true, true, true, true, true, true, true, true, true, true, true, true, true, false, false, false, false, false, false, false, false] rfl rfl (any_of HT_.out (by kernel_rfl)) (fun _ _ _ h => h) (Or.inr ⟨by rfl, rfl⟩) ?_ ?_
          rotate_left
          · simp only [Act.put, List.setIfInBounds_toArray, List.set_cons_zero, List.set_cons_succ, i64_w, i32_w]
            rfl
          refine pure_ (i := 18) (N := some 75) (v := undef) (a' := ?_) #[true, true, true, true, true, true, true, true, true, true, true, true, true, true, true, true, true, true, true, false, false, false, false, false, false, false] rfl rfl (any_of HT_.out (by kernel_rfl)) (fun _ _ _ h => h) (Or.inr ⟨by rfl, rfl⟩) ?_ ?_
          rotate_left
          · simp only [Act.put, List.setIfInBounds_toArray, List.set_cons_zero, List.set_cons_succ, i64_w, i32_w]
            rfl
          refine pure_ (i := 19) (N := some 76) (v := undef) (a' := ?_) #[true, true, true, true, true, true, true, true, true, true, true, true, true, true, true, true, true, true, true, true, false, false, false, false, false, false] rfl rfl (any_of HT_.out (by kernel_rfl)) (fun _ _ _ h => h) (Or.inr ⟨by rfl, rfl⟩) ?_ ?_
          rotate_left
          · simp only [Act.put, List.setIfInBounds_toArray, List.set_cons_zero, List.set_cons_succ, i64_w, i32_w]
            rfl
          refine pure_ (i := 20) (N := some 77) (v := undef) (a' := ?_) #[true, true, true, true, true, true, true, true, true, true, true, true, true, true, true, true, true, true, true, true, true, false, false, false, false, false] rfl rfl (any_of HT_.out (by kernel_rfl)) (fun _ _ _ h => h) (Or.inr ⟨by rfl, rfl⟩) ?_ ?_
          rotate_left
          · simp only [Act.put, List.setIfInBounds_toArray, List.set_cons_zero, List.set_cons_succ, i64_w, i32_w]
            rfl
          refine pure_ (i := 21) (N := some 78) (v := undef) (a' := ?_) #[true, true, true, true, true, true, true, true, true, true, true, true, true, true, true, true, true, true, true, true, true, true, false, false, false, false] rfl rfl (any_of HT_.out (by kernel_rfl)) (fun _ _ _ h => h) (Or.inr ⟨by rfl, rfl⟩) ?_ ?_
          rotate_left
          · simp only [Act.put, List.setIfInBounds_toArray, List.set_cons_zero, List.set_cons_succ, i64_w, i32_w]
            rfl
          refine pure_ (i := 22) (N := some 79) (v := undef) (a' := ?_) #[true, true, true, true, true, true, true, true, true, true, true, true, true, true, true, true, true, true, true, true, true, true, true, false, false, false] rfl rfl (any_of HT_.out (by kernel_rfl)) (fun _ _ _ h => h) (Or.inr ⟨by rfl, rfl⟩) ?_ ?_
          rotate_left
          · simp only [Act.put, List.setIfInBounds_toArray, List.set_cons_zero, List.set_cons_succ, i64_w, i32_w]
            rfl
          refine pure_ (i := 23) (N := some 80) (v := undef) (a' := ?_) #[true, true, true, true, true, true, true, true, true, true, true, true, true, true, true, true, true, true, true, true, true, true, true, true, false, false] rfl rfl (any_of HT_.out (by kernel_rfl)) (fun _ _ _ h => h) (Or.inr ⟨by rfl, rfl⟩) ?_ ?_
          rotate_left
          · simp only [Act.put, List.setIfInBounds_toArray, List.set_cons_zero, List.set_cons_succ, i64_w, i32_w]
            rfl
          refine pure_ (i := 24) (N := some 81) (v := ?_) (a' := ?_) #[true, true, true, true, true, true, true, true, true, true, true, true, true, true, true, true, true, true, true, true, true, true, true, true, true, false] rfl rfl (any_of HT_.out (by kernel_rfl)) (fun _ _ _ h => h) (Or.inl ⟨by rfl, ?_⟩) ?_ ?_
          rotate_left
          · intro w'
            go_simp
            with_reducible rfl
          rotate_left
          · simp only [Act.put, List.setIfInBounds_toArray, List.set_cons_zero, List.set_cons_succ, i64_w, i32_w]
            rfl
          refine pure_ (i := 25) (N := some 6) (v := ?_) (a' := ?_) #[true, true, true, true, true, true, true, true, true, true, true, true, true, true, true, true, true, true, true, true, true, true, true, true, true, true] rfl rfl (any_of HT_.out (by kernel_rfl)) (fun _ _ _ h => h) (Or.inl ⟨by rfl, ?_⟩) ?_ ?_
          rotate_left
          · intro w'
            go_simp
            with_reducible rfl
          rotate_left
          · simp only [Act.put, List.setIfInBounds_toArray, List.set_cons_zero, List.set_cons_succ, i64_w, i32_w]
            rfl
          refine done_ (done_of HT_.out (by kernel_rfl)) ?_
          try go_wp2
          go_ret
          exact ⟨by first | rfl | (simp [errW_none, errW_some] <;> rfl) | (simp [*, errW_none, errW_some] <;> rfl), by repeat (first | (with_reducible first | exact HB.out | apply below_alloc | apply pw_below_drewN | apply below_drew1 | refine below_set ?_ GE127.out | refine below_set ?_ GE136.out | refine below_set ?_ GE137.out) | exact HB.out)⟩
  · rw [if_neg c6] at H
    exact absurd H (by simp)
def WF31 (x : S31) : Prop := (Lit.int .i64 x.f0).wf = true ∧ (Lit.int .i64 x.f1).wf = true ∧ (Lit.int .i64 x.f2).wf = true
theorem openk31 {H : Type} {enc : TypeId × Value → H} {W : World} {base : Nat} {spare : Nat → Bool} {held : Bool} {m : Nat} {cs : List Value} {x : DataW H × List MemPlace} (h : DataW.trod enc Try.prog W base spare held m 31 cs = some x) : ∃ y : S31, cs = [.int .i64 y.f0, .int .i64 y.f1, .int .i64 y.f2] ∧ WF31 y := by
  obtain ⟨xs, n, _, _, hl, hx, hf⟩ := DataW.trod_array Try.underlying31 h
  rw [show Try.prog.cellsOf 31 = 3 from by kernel_rfl] at hl
  obtain ⟨c0, c1, c2, rfl⟩ : ∃ c0 c1 c2, cs = [c0, c1, c2] := by match cs, hl with | [c0, c1, c2], _ => exact ⟨c0, c1, c2, rfl⟩
  obtain ⟨y0, y1, y2, rfl⟩ : ∃ y0 y1 y2, xs = [y0, y1, y2] := by match xs, hx with | [y0, y1, y2], _ => exact ⟨y0, y1, y2, rfl⟩
  have g0 := hf 0 (by omega)
  rw [show Try.prog.cellsOf 3 = 1 from by kernel_rfl] at g0
  obtain ⟨v0, q0, _, w0⟩ := DataW.trod_int (cs := [c0]) (x := y0) Try.underlying3 g0
  simp only [List.cons.injEq, and_true] at q0
  subst q0
  have g1 := hf 1 (by omega)
  rw [show Try.prog.cellsOf 3 = 1 from by kernel_rfl] at g1
  obtain ⟨v1, q1, _, w1⟩ := DataW.trod_int (cs := [c1]) (x := y1) Try.underlying3 g1
  simp only [List.cons.injEq, and_true] at q1
  subst q1
  have g2 := hf 2 (by omega)
  rw [show Try.prog.cellsOf 3 = 1 from by kernel_rfl] at g2
  obtain ⟨v2, q2, _, w2⟩ := DataW.trod_int (cs := [c2]) (x := y2) Try.underlying3 g2
  simp only [List.cons.injEq, and_true] at q2
  subst q2
  refine ⟨⟨v0, v1, v2⟩, rfl, ?_⟩
  unfold WF31
  exact ⟨w0, w1, w2⟩
/-- THE ONE PURE STATEMENT of horariumlaw10_DemandMore. -/
def horariumlaw10_DemandMore.Pure : Prop := ∀ (a0_0 : Int) (a0_1 : Int) (a0_2 : Int) (a1 : Int) (a2 : Int), (Lit.int .i64 a0_0).wf = true → (Lit.int .i64 a0_1).wf = true → (Lit.int .i64 a0_2).wf = true → (Lit.int .i64 a1).wf = true → (Lit.int .i64 a2).wf = true → ∃ k, horariumlaw10_DemandMore.f k a0_0 a0_1 a0_2 a1 a2 = some true
theorem horariumlaw10_DemandMore.walk (P : horariumlaw10_DemandMore.Pure) (a0_0 : Int) (a0_1 : Int) (a0_2 : Int) (a1 : Int) (a2 : Int) (w : World) (w0_0 : (Lit.int .i64 a0_0).wf = true) (w0_1 : (Lit.int .i64 a0_1).wf = true) (w0_2 : (Lit.int .i64 a0_2).wf = true) (w1 : (Lit.int .i64 a1).wf = true) (w2 : (Lit.int .i64 a2).wf = true) :
    Calls Try.prog 4 #[.agg #[.int .i64 a0_0, .int .i64 a0_1, .int .i64 a0_2], .int .i64 a1, .int .i64 a2] w fun e w' => e = .returned (.bool true) ∧ Below w.heap.size w w' := by
  obtain ⟨k, h⟩ := P a0_0 a0_1 a0_2 a1 a2 w0_0 w0_1 w0_2 w1 w2
  refine (horariumlaw10_DemandMore.calls k a0_0 a0_1 a0_2 a1 a2 true w  h).mono ?_
  rintro e w' ⟨rfl, hd⟩
  exact ⟨rfl, hd⟩

end Go.Proofs.Ytaifojmlbbaabaa.PDemandMore
