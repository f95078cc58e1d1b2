-- Made by px.py (a program of this session, over the kit's printer) out of the translation. Not trusted: Lean checks it.
import Derived.Test.YthiepacmdlgajaaPBusyTellsx0
import Derived.Test.YthiepacmdlgajaaPBusyTellsx1
import Derived.Test.YthiepacmdlgajaaPBusyTellsx2
import Derived.Test.YthiepacmdlgajaaPBusyTellsx3
namespace Go.Proofs.Ythiepacmdlgajaa.PBusyTells
open Go.RowKit Go.Proofs.YthiepacmdlgajaaW.PrintWords Go.Proofs.YthiepacmdlgajaaW.PrintLast Go.Proofs.YthiepacmdlgajaaW.PrintMore
attribute [local go_sem] max2_int min2_int max_two min_two max_three min_three max_four min_four   -- for this text's walks alone
set_option linter.unusedVariables false
set_option linter.unusedSimpArgs false

/-! ### horariumref11_Least: function 54 -/
mutual
def horariumref11_Least.j0 : Nat → List (S28) → Bool → Option (Int)
  | 0, _, _ => none
  | k + 1, x0, x14 => if x14 = true then (some 0) else (if 0 < (x0.length : Int) then (horariumref11_Least.l0 k x0 ((rd_T28 x0 0).f2) 0) else (none))
def horariumref11_Least.l0 : Nat → List (S28) → Int → Int → Option (Int)
  | 0, _, _, _ => none
  | k + 1, x0, x4, x5 => if x5 < (x0.length : Int) then (if 0 ≤ x5 then (if ((rd_T28 x0 x5).f2) < x4 then (horariumref11_Least.l0 k x0 ((rd_T28 x0 x5).f2) (wrap64 (x5 + 1))) else (horariumref11_Least.l0 k x0 x4 (wrap64 (x5 + 1)))) else (none)) else (some x4)
end
def horariumref11_Least.f (k : Nat) (l0 : List (S28)) : Option (Int) := (horariumref09_Row.f k l0).bind fun t148 => (if t148 = true then (horariumref11_Least.j0 k l0 ((l0.length : Int) == 0)) else (horariumref11_Least.j0 k l0 true))
theorem horariumref11_Least.mono_l : ∀ k, (∀ y0 y1, LeO (horariumref11_Least.j0 k y0 y1) (horariumref11_Least.j0 (k + 1) y0 y1)) ∧ (∀ y0 y1 y2, LeO (horariumref11_Least.l0 k y0 y1 y2) (horariumref11_Least.l0 (k + 1) y0 y1 y2))
  | 0 => ⟨fun _ _ r h => by simp [horariumref11_Least.j0] at h, fun _ _ _ r h => by simp [horariumref11_Least.l0] at h⟩
  | k + 1 => by
    obtain ⟨ih0, ih1⟩ := horariumref11_Least.mono_l k
    refine ⟨?_, ?_⟩
    · intro y0 y1
      unfold horariumref11_Least.j0
      repeat' first
      | (with_reducible exact ih0 _ _)
      | (with_reducible exact ih1 _ _ _)
      | (with_reducible exact horariumref09_Row.mono _ _)
      | (with_reducible exact LeO.refl _)
      | (with_reducible exact LeO.none _)
      | (with_reducible refine LeO.ite ?_ ?_)
      | (with_reducible refine LeO.bind ?_ (fun _ => ?_))
      | exact ih0 _ _
      | exact ih1 _ _ _
      | exact horariumref09_Row.mono _ _
      | exact LeO.none _
      | refine LeO.ite ?_ ?_
      | refine LeO.bind ?_ (fun _ => ?_)
    · intro y0 y1 y2
      unfold horariumref11_Least.l0
      repeat' first
      | (with_reducible exact ih0 _ _)
      | (with_reducible exact ih1 _ _ _)
      | (with_reducible exact horariumref09_Row.mono _ _)
      | (with_reducible exact LeO.refl _)
      | (with_reducible exact LeO.none _)
      | (with_reducible refine LeO.ite ?_ ?_)
      | (with_reducible refine LeO.bind ?_ (fun _ => ?_))
      | exact ih0 _ _
      | exact ih1 _ _ _
      | exact horariumref09_Row.mono _ _
      | exact LeO.none _
      | refine LeO.ite ?_ ?_
      | refine LeO.bind ?_ (fun _ => ?_)
theorem horariumref11_Least.mono : ∀ a0 k, LeO (horariumref11_Least.f k a0) (horariumref11_Least.f (k + 1) a0) := by
  intro a0 k
  obtain ⟨ih0, ih1⟩ := horariumref11_Least.mono_l k
  unfold horariumref11_Least.f
  repeat' first
      | (with_reducible exact ih0 _ _)
      | (with_reducible exact ih1 _ _ _)
      | (with_reducible exact horariumref09_Row.mono _ _)
      | (with_reducible exact LeO.refl _)
      | (with_reducible exact LeO.none _)
      | (with_reducible refine LeO.ite ?_ ?_)
      | (with_reducible refine LeO.bind ?_ (fun _ => ?_))
      | exact ih0 _ _
      | exact ih1 _ _ _
      | exact horariumref09_Row.mono _ _
      | exact LeO.none _
      | refine LeO.ite ?_ ?_
      | refine LeO.bind ?_ (fun _ => ?_)
set_option maxHeartbeats 8000000 in
set_option maxRecDepth 100000 in
theorem horariumref11_Least.calls (k : Nat) (A0 : Option Addr) (c0 : Nat) (l0 : List (S28)) (r : Int) (w : World) (hr0 : Kd.C k28 w A0 l0.length l0) (hc0 : l0.length ≤ c0) (h : horariumref11_Least.f k l0 = some r) :
    Calls Try.prog 54 #[.slice A0 l0.length c0] w fun e w' => e = .returned (.int .i64 r) ∧ Below w.heap.size w w' := by
  have HR0 := Aside0.mk hr0
  have HC0 := Aside0.mk hc0
  clear hr0 hc0
  have HB := Aside0.mk (Below.refl w.heap.size w)
  have H : ((horariumref09_Row.f k l0).bind fun t148 => (if t148 = true then (horariumref11_Least.j0 k l0 ((l0.length : Int) == 0)) else (horariumref11_Least.j0 k l0 true))) = some r := h
  clear h
  replace H := Option.bind_eq_some_iff.mp H
  obtain ⟨t148, A20, H⟩ := H
  replace H : (if t148 = true then (horariumref11_Least.j0 k l0 ((l0.length : Int) == 0)) else (horariumref11_Least.j0 k l0 true)) = some r := H
  have A2 := Aside0.mk A20
  clear A20
  have HC3 := Aside0.mk H
  clear H
  go_enter Try.func54, Try.ntmps54
  go_upto_region 2 with (first | ((with_reducible refine gate_callee (f := 57) rfl ?_); refine goesL_ (some 7) rfl rfl Try.func57 (by kernel_rfl) rfl #[.slice A0 l0.length c0] rfl (by (try simp only [List.map_toArray, List.map_cons, List.map_nil]); first | done | rfl | (simp only [List.length_drop, List.length_take]; rfl)) ?_; (with_reducible refine (horariumref09_Row.calls k _ _ l0 t148 _ ?side1 ?side2 A2.out).mono ?_); (case side1 => repeat (first | exact HR0.out | (with_reducible refine Kd.C_alloc ?_ _) | (with_reducible refine Kd.C_drewN ?_ _) | (with_reducible refine Kd.C_drew ?_))); (case side2 => exact HC0.out); rintro e w4 ⟨rfl, hb⟩; refine ⟨_, rfl, ?_⟩; have n0_ := Aside0.mk (below_step (by repeat (first | (with_reducible first | exact HB.out | apply below_alloc | apply pw_below_drewN | apply below_drew1) | exact HB.out)) hb); clear HB; have HB := n0_; clear n0_; (try clear hb); (try clear hb2); (try clear hk); (try clear hi)))
  (try simp only [Act.put, List.setIfInBounds_toArray, List.set_cons_zero, List.set_cons_succ])
  go_cut [14] (fun v14 wc => ∃ (kq : Nat) (x14_2 : Bool), v14 = .bool x14_2 ∧ Aside0 (horariumref11_Least.j0 kq l0 x14_2 = some r) ∧ Aside0 (kq ≤ k) ∧ Aside0 (Below w.heap.size w wc))
  case first =>
    have H := HC3.out
    clear HC3
    by_cases c5 : t148 = true
    · subst c5
      have H1 : (horariumref11_Least.j0 k l0 ((l0.length : Int) == 0)) = some r := by rw [if_pos rfl] at H; exact H
      clear H
      have H := H1
      clear H1
      have H' := Aside0.mk H
      clear H
      go_wp2
      go_meet
      case rel => exact ⟨_, (((l0.length : Int) == 0)), (by first | rfl | (simp; done) | (simp [*]; done)), H', ⟨by first | omega | exact Nat.le_refl _⟩, ⟨by repeat (first | (with_reducible first | exact HB.out | apply below_alloc | apply pw_below_drewN | apply below_drew1) | exact HB.out)⟩⟩
    · replace c5 := Bool.eq_false_iff.mpr c5
      subst c5
      have H1 : (horariumref11_Least.j0 k l0 true) = some r := by rw [if_neg (show ¬ (false = true) by decide)] at H; exact H
      clear H
      have H := H1
      clear H1
      have H' := Aside0.mk H
      clear H
      go_wp2
      go_meet
      case rel => exact ⟨_, (true), (by first | rfl | (simp; done) | (simp [*]; done)), H', ⟨by first | omega | exact Nat.le_refl _⟩, ⟨by repeat (first | (with_reducible first | exact HB.out | apply below_alloc | apply pw_below_drewN | apply below_drew1) | exact HB.out)⟩⟩
  case rest =>
    clear HC3
    try clear p2
    try clear c5
    obtain ⟨kq, x14_2, rfl, HA, HJ2, HB⟩ := hcut
    cases kq with
    | zero => exact absurd HA.out (by simp [horariumref11_Least.j0])
    | succ kj2 =>
      have H := HA.out
      clear HA
      simp only [horariumref11_Least.j0] at H
      by_cases c6 : x14_2 = true
      · subst c6
        have H1 : (some 0) = some r := by rw [if_pos rfl] at H; exact H
        clear H
        have H := H1
        clear H1
        obtain rfl := Option.some.inj H
        go_wp2
        go_ret
        exact ⟨by first | rfl | (simp [errW_none, errW_some] <;> rfl) | (simp [*, errW_none, errW_some] <;> rfl), by repeat (first | (with_reducible first | exact HB.out | apply below_alloc | apply pw_below_drewN | apply below_drew1) | exact HB.out)⟩
      · replace c6 := Bool.eq_false_iff.mpr c6
        subst c6
        have H1 : (if 0 < (l0.length : Int) then (horariumref11_Least.l0 kj2 l0 ((rd_T28 l0 0).f2) 0) else (none)) = some r := by rw [if_neg (show ¬ (false = true) by decide)] at H; exact H
        clear H
        have H := H1
        clear H1
        by_cases c7 : 0 < (l0.length : Int)
        · rw [if_pos c7] at H
          have c7b0 : decide (0 < (l0.length : Int)) = true := decide_eq_true c7
          have c7b1 : decide (0 < l0.length) = true := decide_eq_true (by omega)
          clear c7
          have H' := Aside0.mk H
          clear H
          have p149 : 0 ≤ (0 : Int) := (by omega)
          have q149 : 0 < (l0.length : Int) := of_decide_eq_true (by first | (with_reducible assumption) | assumption)
          obtain ⟨ad149, e149, hx149_0, hx149_1, hx149_2, hx149_3, hx149_4⟩ := at_T28 HR0.out 0 p149 q149
          cases e149
          have qi149 : (0 < l0.length) = True := eq_true (by omega)
          (try rw [show ((0 : Int)).toNat = 0 from rfl] at hx149_0)
          (try rw [show 0 * 5 = 0 from rfl] at hx149_0)
          (try rw [Addr.add_zero'] at hx149_0)
          (try rw [show ((0 : Int)).toNat = 0 from rfl] at hx149_1)
          (try rw [show 0 * 5 = 0 from rfl] at hx149_1)
          (try rw [Addr.add_zero'] at hx149_1)
          (try rw [show ((0 : Int)).toNat = 0 from rfl] at hx149_2)
          (try rw [show 0 * 5 = 0 from rfl] at hx149_2)
          (try rw [Addr.add_zero'] at hx149_2)
          (try rw [show ((0 : Int)).toNat = 0 from rfl] at hx149_3)
          (try rw [show 0 * 5 = 0 from rfl] at hx149_3)
          (try rw [Addr.add_zero'] at hx149_3)
          (try rw [show ((0 : Int)).toNat = 0 from rfl] at hx149_4)
          (try rw [show 0 * 5 = 0 from rfl] at hx149_4)
          (try rw [Addr.add_zero'] at hx149_4)
          replace hx149_0 := (HB.out.cell (World.block_lt_of_cell? w _ hx149_0)).trans hx149_0
          replace hx149_1 := (HB.out.cell (World.block_lt_of_cell? w _ hx149_1)).trans hx149_1
          replace hx149_2 := (HB.out.cell (World.block_lt_of_cell? w _ hx149_2)).trans hx149_2
          replace hx149_3 := (HB.out.cell (World.block_lt_of_cell? w _ hx149_3)).trans hx149_3
          replace hx149_4 := (HB.out.cell (World.block_lt_of_cell? w _ hx149_4)).trans hx149_4
          replace p149 := eq_true p149
          replace q149 := eq_true q149
          go_wp2
          go_loopg [4, 5] kj2 (fun kq v4 v5 w' => ∃ (x4_2 : Int) (x5_2 : Int), v4 = .int .i64 x4_2 ∧ v5 = .int .i64 x5_2 ∧ Aside0 (horariumref11_Least.l0 kq l0 x4_2 x5_2 = some r) ∧ Aside0 (kq ≤ kj2) ∧ Aside0 (Below w.heap.size w w'))
          case atStart => exact ⟨((rd_T28 l0 0).f2), (0), (by first | rfl | (simp; done) | (simp [*]; done)), (by first | rfl | (simp; done) | (simp [*]; done)), H', ⟨Nat.le_refl _⟩, ⟨by repeat (first | (with_reducible first | exact HB.out | apply below_alloc | apply pw_below_drewN | apply below_drew1) | exact HB.out)⟩⟩
          case round =>
            clear H'
            try clear p1
            try clear q1
            try clear hx1
            try clear qi1
            try clear p2
            try clear c5
            try clear c6
            try clear c7
            try clear c7b0
            try clear c7b1
            try clear hx149_0
            try clear hx149_1
            try clear hx149_2
            try clear hx149_3
            try clear hx149_4
            try clear p149
            try clear p2
            try clear q149
            obtain ⟨x4_2, x5_2, rfl, rfl, HA, HK2, HB⟩ := hrel
            cases gk with
            | zero => exact absurd HA.out (by simp [horariumref11_Least.l0])
            | succ k2 =>
              have H := HA.out
              clear HA
              simp only [horariumref11_Least.l0] at H
              by_cases c8 : x5_2 < (l0.length : Int)
              · rw [if_pos c8] at H
                have c8b0 : decide (x5_2 < (l0.length : Int)) = true := decide_eq_true c8
                clear c8
                by_cases c9 : 0 ≤ x5_2
                · rw [if_pos c9] at H
                  have c9b0 : decide (0 ≤ x5_2) = true := decide_eq_true c9
                  clear c9
                  by_cases c10 : ((rd_T28 l0 x5_2).f2) < x4_2
                  · rw [if_pos c10] at H
                    have c10b0 : decide (((rd_T28 l0 x5_2).f2) < x4_2) = true := decide_eq_true c10
                    clear c10
                    have H' := Aside0.mk H
                    clear H
                    have p150 : 0 ≤ (x5_2 : Int) := of_decide_eq_true (by first | (with_reducible assumption) | assumption)
                    have q150 : x5_2 < (l0.length : Int) := of_decide_eq_true (by first | (with_reducible assumption) | assumption)
                    obtain ⟨ad150, e150, hx150_0, hx150_1, hx150_2, hx150_3, hx150_4⟩ := at_T28 HR0.out x5_2 p150 q150
                    obtain rfl : ad149 = ad150 := (by injection e150)
                    replace hx150_0 := (HB.out.cell (World.block_lt_of_cell? w _ hx150_0)).trans hx150_0
                    replace hx150_1 := (HB.out.cell (World.block_lt_of_cell? w _ hx150_1)).trans hx150_1
                    replace hx150_2 := (HB.out.cell (World.block_lt_of_cell? w _ hx150_2)).trans hx150_2
                    replace hx150_3 := (HB.out.cell (World.block_lt_of_cell? w _ hx150_3)).trans hx150_3
                    replace hx150_4 := (HB.out.cell (World.block_lt_of_cell? w _ hx150_4)).trans hx150_4
                    replace p150 := eq_true p150
                    replace q150 := eq_true q150
                    have p151 : 0 ≤ (x5_2 : Int) := of_decide_eq_true (by first | (with_reducible assumption) | assumption)
                    have q151 : x5_2 < (l0.length : Int) := of_decide_eq_true (by first | (with_reducible assumption) | assumption)
                    obtain ⟨ad151, e151, hx151_0, hx151_1, hx151_2, hx151_3, hx151_4⟩ := at_T28 HR0.out x5_2 p151 q151
                    obtain rfl : ad149 = ad151 := (by injection e151)
                    replace hx151_0 := (HB.out.cell (World.block_lt_of_cell? w _ hx151_0)).trans hx151_0
                    replace hx151_1 := (HB.out.cell (World.block_lt_of_cell? w _ hx151_1)).trans hx151_1
                    replace hx151_2 := (HB.out.cell (World.block_lt_of_cell? w _ hx151_2)).trans hx151_2
                    replace hx151_3 := (HB.out.cell (World.block_lt_of_cell? w _ hx151_3)).trans hx151_3
                    replace hx151_4 := (HB.out.cell (World.block_lt_of_cell? w _ hx151_4)).trans hx151_4
                    replace p151 := eq_true p151
                    replace q151 := eq_true q151
                    go_wp2
                    go_roundg k2
                    case measure => have := HJ2.out; have := HK2.out; omega
                    case rel => exact ⟨((rd_T28 l0 x5_2).f2), (wrap64 (x5_2 + 1)), (by first | rfl | (simp; done) | (simp [*]; done)), (by first | rfl | (simp; done) | (simp [*]; done)), H', ⟨by have := HJ2.out; have := HK2.out; omega⟩, ⟨by repeat (first | (with_reducible first | exact HB.out | apply below_alloc | apply pw_below_drewN | apply below_drew1) | exact HB.out)⟩⟩
                  · rw [if_neg c10] at H
                    have c10b0 : decide (((rd_T28 l0 x5_2).f2) < x4_2) = false := decide_eq_false c10
                    clear c10
                    have H' := Aside0.mk H
                    clear H
                    have p150 : 0 ≤ (x5_2 : Int) := of_decide_eq_true (by first | (with_reducible assumption) | assumption)
                    have q150 : x5_2 < (l0.length : Int) := of_decide_eq_true (by first | (with_reducible assumption) | assumption)
                    obtain ⟨ad150, e150, hx150_0, hx150_1, hx150_2, hx150_3, hx150_4⟩ := at_T28 HR0.out x5_2 p150 q150
                    obtain rfl : ad149 = ad150 := (by injection e150)
                    replace hx150_0 := (HB.out.cell (World.block_lt_of_cell? w _ hx150_0)).trans hx150_0
                    replace hx150_1 := (HB.out.cell (World.block_lt_of_cell? w _ hx150_1)).trans hx150_1
                    replace hx150_2 := (HB.out.cell (World.block_lt_of_cell? w _ hx150_2)).trans hx150_2
                    replace hx150_3 := (HB.out.cell (World.block_lt_of_cell? w _ hx150_3)).trans hx150_3
                    replace hx150_4 := (HB.out.cell (World.block_lt_of_cell? w _ hx150_4)).trans hx150_4
                    replace p150 := eq_true p150
                    replace q150 := eq_true q150
                    go_wp2
                    go_roundg k2
                    case measure => have := HJ2.out; have := HK2.out; omega
                    case rel => exact ⟨(x4_2), (wrap64 (x5_2 + 1)), (by first | rfl | (simp; done) | (simp [*]; done)), (by first | rfl | (simp; done) | (simp [*]; done)), H', ⟨by have := HJ2.out; have := HK2.out; omega⟩, ⟨by repeat (first | (with_reducible first | exact HB.out | apply below_alloc | apply pw_below_drewN | apply below_drew1) | exact HB.out)⟩⟩
                · rw [if_neg c9] at H
                  exact absurd H (by simp)
              · rw [if_neg c8] at H
                have c8b0 : decide (x5_2 < (l0.length : Int)) = false := decide_eq_false c8
                clear c8
                obtain rfl := Option.some.inj H
                go_wp2
                go_ret
                exact ⟨by first | rfl | (simp [errW_none, errW_some] <;> rfl) | (simp [*, errW_none, errW_some] <;> rfl), by repeat (first | (with_reducible first | exact HB.out | apply below_alloc | apply pw_below_drewN | apply below_drew1) | exact HB.out)⟩
        · rw [if_neg c7] at H
          exact absurd H (by simp)

/-! ### horariumlaw11_tells: function 26 -/
def horariumlaw11_tells.f (k : Nat) (l0 : List (S28)) (a1 : Int) : Option (Bool) := (busy_Work.f k l0 a1).bind fun t152 => ((horariumref11_Work.f k l0 a1).bind fun t153 => (if t152 = t153 then ((busy_Idle.f k l0 a1).bind fun t154 => ((horariumref11_Idle.f k l0 a1).bind fun t155 => (if (t154 == t155) = true then ((busy_Least.f k l0).bind fun t156 => ((horariumref11_Least.f k l0).bind fun t157 => (some (t156 == t157)))) else (some false)))) else (some false)))
theorem horariumlaw11_tells.mono : ∀ a0 a1 k, LeO (horariumlaw11_tells.f k a0 a1) (horariumlaw11_tells.f (k + 1) a0 a1) := by
  intro a0 a1 k
  unfold horariumlaw11_tells.f
  repeat' first
      | (with_reducible exact busy_Idle.mono _ _ _)
      | (with_reducible exact busy_Least.mono _ _)
      | (with_reducible exact busy_Work.mono _ _ _)
      | (with_reducible exact horariumref11_Idle.mono _ _ _)
      | (with_reducible exact horariumref11_Least.mono _ _)
      | (with_reducible exact horariumref11_Work.mono _ _ _)
      | (with_reducible exact LeO.refl _)
      | (with_reducible exact LeO.none _)
      | (with_reducible refine LeO.ite ?_ ?_)
      | (with_reducible refine LeO.bind ?_ (fun _ => ?_))
      | exact busy_Idle.mono _ _ _
      | exact busy_Least.mono _ _
      | exact busy_Work.mono _ _ _
      | exact horariumref11_Idle.mono _ _ _
      | exact horariumref11_Least.mono _ _
      | exact horariumref11_Work.mono _ _ _
      | exact LeO.none _
      | refine LeO.ite ?_ ?_
      | refine LeO.bind ?_ (fun _ => ?_)
set_option maxHeartbeats 8000000 in
set_option maxRecDepth 100000 in
theorem horariumlaw11_tells.calls (k : Nat) (A0 : Option Addr) (c0 : Nat) (l0 : List (S28)) (a1 : Int) (r : Bool) (w : World) (hr0 : Kd.C k28 w A0 l0.length l0) (hc0 : l0.length ≤ c0) (h : horariumlaw11_tells.f k l0 a1 = some r) :
    Calls Try.prog 26 #[.slice A0 l0.length c0, .int .i64 a1] w fun e w' => e = .returned (.bool r) ∧ Below w.heap.size w w' := by
  have HR0 := Aside0.mk hr0
  have HC0 := Aside0.mk hc0
  clear hr0 hc0
  have HB := Aside0.mk (Below.refl w.heap.size w)
  have H : ((busy_Work.f k l0 a1).bind fun t152 => ((horariumref11_Work.f k l0 a1).bind fun t153 => (if t152 = t153 then ((busy_Idle.f k l0 a1).bind fun t154 => ((horariumref11_Idle.f k l0 a1).bind fun t155 => (if (t154 == t155) = true then ((busy_Least.f k l0).bind fun t156 => ((horariumref11_Least.f k l0).bind fun t157 => (some (t156 == t157)))) else (some false)))) else (some false)))) = some r := h
  clear h
  replace H := Option.bind_eq_some_iff.mp H
  obtain ⟨t152, A30, H⟩ := H
  replace H : ((horariumref11_Work.f k l0 a1).bind fun t153 => (if t152 = t153 then ((busy_Idle.f k l0 a1).bind fun t154 => ((horariumref11_Idle.f k l0 a1).bind fun t155 => (if (t154 == t155) = true then ((busy_Least.f k l0).bind fun t156 => ((horariumref11_Least.f k l0).bind fun t157 => (some (t156 == t157)))) else (some false)))) else (some false))) = some r := H
  have A3 := Aside0.mk A30
  clear A30
  replace H := Option.bind_eq_some_iff.mp H
  obtain ⟨t153, A40, H⟩ := H
  replace H : (if t152 = t153 then ((busy_Idle.f k l0 a1).bind fun t154 => ((horariumref11_Idle.f k l0 a1).bind fun t155 => (if (t154 == t155) = true then ((busy_Least.f k l0).bind fun t156 => ((horariumref11_Least.f k l0).bind fun t157 => (some (t156 == t157)))) else (some false)))) else (some false)) = some r := H
  have A4 := Aside0.mk A40
  clear A40
  by_cases c5 : t152 = t153
  · rw [if_pos c5] at H
    have c5b0 : (t152 == t153) = true := beq_iff_eq.mpr c5
    have c5b1 : (t152 != t153) = false := bne_eq_false_iff_eq.mpr c5
    clear c5
    replace H := Option.bind_eq_some_iff.mp H
    obtain ⟨t154, A60, H⟩ := H
    replace H : ((horariumref11_Idle.f k l0 a1).bind fun t155 => (if (t154 == t155) = true then ((busy_Least.f k l0).bind fun t156 => ((horariumref11_Least.f k l0).bind fun t157 => (some (t156 == t157)))) else (some false))) = some r := H
    have A6 := Aside0.mk A60
    clear A60
    replace H := Option.bind_eq_some_iff.mp H
    obtain ⟨t155, A70, H⟩ := H
    replace H : (if (t154 == t155) = true then ((busy_Least.f k l0).bind fun t156 => ((horariumref11_Least.f k l0).bind fun t157 => (some (t156 == t157)))) else (some false)) = some r := H
    have A7 := Aside0.mk A70
    clear A70
    by_cases c8 : (t154 == t155) = true
    · rw [if_pos c8] at H
      have c8b0 : (t154 == t155) = true := c8
      (try (have c8b1 : decide (t154 = t155) = true := by simpa using c8))
      (try (have c8b2 : (t154 == t155) = true := by simpa using c8))
      clear c8
      replace H := Option.bind_eq_some_iff.mp H
      obtain ⟨t156, A90, H⟩ := H
      replace H : ((horariumref11_Least.f k l0).bind fun t157 => (some (t156 == t157))) = some r := H
      have A9 := Aside0.mk A90
      clear A90
      replace H := Option.bind_eq_some_iff.mp H
      obtain ⟨t157, A100, H⟩ := H
      replace H : (some (t156 == t157)) = some r := H
      have A10 := Aside0.mk A100
      clear A100
      obtain rfl := Option.some.inj H
      go_enter Try.func26, Try.ntmps26
      go_wp2_with (first | ((with_reducible refine gate_callee (f := 18) rfl ?_); refine goesL_ (some 7) rfl rfl Try.func18 (by kernel_rfl) rfl #[.slice A0 l0.length c0, .int .i64 a1] rfl (by (try simp only [List.map_toArray, List.map_cons, List.map_nil]); first | done | rfl | (simp only [List.length_drop, List.length_take]; rfl)) ?_; (with_reducible refine (busy_Work.calls k _ _ l0 a1 t152 _ ?side1 ?side2 A3.out).mono ?_); (case side1 => repeat (first | exact HR0.out | (with_reducible refine Kd.C_alloc ?_ _) | (with_reducible refine Kd.C_drewN ?_ _) | (with_reducible refine Kd.C_drew ?_))); (case side2 => exact HC0.out); rintro e w11 ⟨rfl, hb⟩; refine ⟨_, rfl, ?_⟩; have n0_ := Aside0.mk (below_step (by repeat (first | (with_reducible first | exact HB.out | apply below_alloc | apply pw_below_drewN | apply below_drew1) | exact HB.out)) hb); clear HB; have HB := n0_; clear n0_; (try clear hb); (try clear hb2); (try clear hk); (try clear hi)) | ((with_reducible refine gate_callee (f := 51) rfl ?_); refine goesL_ (some 10) rfl rfl Try.func51 (by kernel_rfl) rfl #[.slice A0 l0.length c0, .int .i64 a1] rfl (by (try simp only [List.map_toArray, List.map_cons, List.map_nil]); first | done | rfl | (simp only [List.length_drop, List.length_take]; rfl)) ?_; (with_reducible refine (horariumref11_Work.calls k _ _ l0 a1 t153 _ ?side1 ?side2 A4.out).mono ?_); (case side1 => repeat (first | exact (Kd.C_below HR0.out HB.out) | (with_reducible refine Kd.C_alloc ?_ _) | (with_reducible refine Kd.C_drewN ?_ _) | (with_reducible refine Kd.C_drew ?_))); (case side2 => exact HC0.out); rintro e w12 ⟨rfl, hb⟩; refine ⟨_, rfl, ?_⟩; have n0_ := Aside0.mk (below_step (by repeat (first | (with_reducible first | exact HB.out | apply below_alloc | apply pw_below_drewN | apply below_drew1) | exact HB.out)) hb); clear HB; have HB := n0_; clear n0_; (try clear hb); (try clear hb2); (try clear hk); (try clear hi)) | (go_at_call 22; (with_reducible refine (busy_Idle.calls k _ _ l0 a1 t154 _ ?side1 ?side2 A6.out).mono ?_); (case side1 => repeat (first | exact (Kd.C_below HR0.out HB.out) | (with_reducible refine Kd.C_alloc ?_ _) | (with_reducible refine Kd.C_drewN ?_ _) | (with_reducible refine Kd.C_drew ?_))); (case side2 => exact HC0.out); rintro e w13 ⟨rfl, hb⟩; have n0_ := Aside0.mk (below_step (by repeat (first | (with_reducible first | exact HB.out | apply below_alloc | apply pw_below_drewN | apply below_drew1) | exact HB.out)) hb); clear HB; have HB := n0_; clear n0_; (try clear hb); (try clear hb2); (try clear hk); (try clear hi)) | (go_at_call 52; (with_reducible refine (horariumref11_Idle.calls k _ _ l0 a1 t155 _ ?side1 ?side2 A7.out).mono ?_); (case side1 => repeat (first | exact (Kd.C_below HR0.out HB.out) | (with_reducible refine Kd.C_alloc ?_ _) | (with_reducible refine Kd.C_drewN ?_ _) | (with_reducible refine Kd.C_drew ?_))); (case side2 => exact HC0.out); rintro e w14 ⟨rfl, hb⟩; have n0_ := Aside0.mk (below_step (by repeat (first | (with_reducible first | exact HB.out | apply below_alloc | apply pw_below_drewN | apply below_drew1) | exact HB.out)) hb); clear HB; have HB := n0_; clear n0_; (try clear hb); (try clear hb2); (try clear hk); (try clear hi)) | (go_at_call 53; (with_reducible refine (busy_Least.calls k _ _ l0 t156 _ ?side1 ?side2 A9.out).mono ?_); (case side1 => repeat (first | exact (Kd.C_below HR0.out HB.out) | (with_reducible refine Kd.C_alloc ?_ _) | (with_reducible refine Kd.C_drewN ?_ _) | (with_reducible refine Kd.C_drew ?_))); (case side2 => exact HC0.out); rintro e w15 ⟨rfl, hb⟩; have n0_ := Aside0.mk (below_step (by repeat (first | (with_reducible first | exact HB.out | apply below_alloc | apply pw_below_drewN | apply below_drew1) | exact HB.out)) hb); clear HB; have HB := n0_; clear n0_; (try clear hb); (try clear hb2); (try clear hk); (try clear hi)) | (go_at_call 54; (with_reducible refine (horariumref11_Least.calls k _ _ l0 t157 _ ?side1 ?side2 A10.out).mono ?_); (case side1 => repeat (first | exact (Kd.C_below HR0.out HB.out) | (with_reducible refine Kd.C_alloc ?_ _) | (with_reducible refine Kd.C_drewN ?_ _) | (with_reducible refine Kd.C_drew ?_))); (case side2 => exact HC0.out); rintro e w16 ⟨rfl, hb⟩; have n0_ := Aside0.mk (below_step (by repeat (first | (with_reducible first | exact HB.out | apply below_alloc | apply pw_below_drewN | apply below_drew1) | exact HB.out)) hb); clear HB; have HB := n0_; clear n0_; (try clear hb); (try clear hb2); (try clear hk); (try clear hi)))
      go_ret
      exact ⟨by first | rfl | (simp [errW_none, errW_some] <;> rfl) | (simp [*, errW_none, errW_some] <;> rfl), by repeat (first | (with_reducible first | exact HB.out | apply below_alloc | apply pw_below_drewN | apply below_drew1) | exact HB.out)⟩
    · rw [if_neg c8] at H
      have c8b0 : (t154 == t155) = false := by first | (simpa using c8) | exact Bool.eq_false_iff.mpr c8 | exact eq_true_of_ne_false c8
      (try (have c8b1 : decide (t154 = t155) = false := by simpa using c8))
      (try (have c8b2 : (t154 == t155) = false := by simpa using c8))
      (try (have c8b3 : ¬ (t154 = t155) := by simpa using c8))
      clear c8
      obtain rfl := Option.some.inj H
      go_enter Try.func26, Try.ntmps26
      go_wp2_with (first | ((with_reducible refine gate_callee (f := 18) rfl ?_); refine goesL_ (some 7) rfl rfl Try.func18 (by kernel_rfl) rfl #[.slice A0 l0.length c0, .int .i64 a1] rfl (by (try simp only [List.map_toArray, List.map_cons, List.map_nil]); first | done | rfl | (simp only [List.length_drop, List.length_take]; rfl)) ?_; (with_reducible refine (busy_Work.calls k _ _ l0 a1 t152 _ ?side1 ?side2 A3.out).mono ?_); (case side1 => repeat (first | exact HR0.out | (with_reducible refine Kd.C_alloc ?_ _) | (with_reducible refine Kd.C_drewN ?_ _) | (with_reducible refine Kd.C_drew ?_))); (case side2 => exact HC0.out); rintro e w17 ⟨rfl, hb⟩; refine ⟨_, rfl, ?_⟩; have n0_ := Aside0.mk (below_step (by repeat (first | (with_reducible first | exact HB.out | apply below_alloc | apply pw_below_drewN | apply below_drew1) | exact HB.out)) hb); clear HB; have HB := n0_; clear n0_; (try clear hb); (try clear hb2); (try clear hk); (try clear hi)) | ((with_reducible refine gate_callee (f := 51) rfl ?_); refine goesL_ (some 10) rfl rfl Try.func51 (by kernel_rfl) rfl #[.slice A0 l0.length c0, .int .i64 a1] rfl (by (try simp only [List.map_toArray, List.map_cons, List.map_nil]); first | done | rfl | (simp only [List.length_drop, List.length_take]; rfl)) ?_; (with_reducible refine (horariumref11_Work.calls k _ _ l0 a1 t153 _ ?side1 ?side2 A4.out).mono ?_); (case side1 => repeat (first | exact (Kd.C_below HR0.out HB.out) | (with_reducible refine Kd.C_alloc ?_ _) | (with_reducible refine Kd.C_drewN ?_ _) | (with_reducible refine Kd.C_drew ?_))); (case side2 => exact HC0.out); rintro e w18 ⟨rfl, hb⟩; refine ⟨_, rfl, ?_⟩; have n0_ := Aside0.mk (below_step (by repeat (first | (with_reducible first | exact HB.out | apply below_alloc | apply pw_below_drewN | apply below_drew1) | exact HB.out)) hb); clear HB; have HB := n0_; clear n0_; (try clear hb); (try clear hb2); (try clear hk); (try clear hi)) | (go_at_call 22; (with_reducible refine (busy_Idle.calls k _ _ l0 a1 t154 _ ?side1 ?side2 A6.out).mono ?_); (case side1 => repeat (first | exact (Kd.C_below HR0.out HB.out) | (with_reducible refine Kd.C_alloc ?_ _) | (with_reducible refine Kd.C_drewN ?_ _) | (with_reducible refine Kd.C_drew ?_))); (case side2 => exact HC0.out); rintro e w19 ⟨rfl, hb⟩; have n0_ := Aside0.mk (below_step (by repeat (first | (with_reducible first | exact HB.out | apply below_alloc | apply pw_below_drewN | apply below_drew1) | exact HB.out)) hb); clear HB; have HB := n0_; clear n0_; (try clear hb); (try clear hb2); (try clear hk); (try clear hi)) | (go_at_call 52; (with_reducible refine (horariumref11_Idle.calls k _ _ l0 a1 t155 _ ?side1 ?side2 A7.out).mono ?_); (case side1 => repeat (first | exact (Kd.C_below HR0.out HB.out) | (with_reducible refine Kd.C_alloc ?_ _) | (with_reducible refine Kd.C_drewN ?_ _) | (with_reducible refine Kd.C_drew ?_))); (case side2 => exact HC0.out); rintro e w20 ⟨rfl, hb⟩; have n0_ := Aside0.mk (below_step (by repeat (first | (with_reducible first | exact HB.out | apply below_alloc | apply pw_below_drewN | apply below_drew1) | exact HB.out)) hb); clear HB; have HB := n0_; clear n0_; (try clear hb); (try clear hb2); (try clear hk); (try clear hi)))
      go_ret
      exact ⟨by first | rfl | (simp [errW_none, errW_some] <;> rfl) | (simp [*, errW_none, errW_some] <;> rfl), by repeat (first | (with_reducible first | exact HB.out | apply below_alloc | apply pw_below_drewN | apply below_drew1) | exact HB.out)⟩
  · rw [if_neg c5] at H
    have c5b0 : (t152 == t153) = false := beq_eq_false_iff_ne.mpr c5
    have c5b1 : (t152 != t153) = true := bne_iff_ne.mpr c5
    obtain rfl := Option.some.inj H
    go_enter Try.func26, Try.ntmps26
    go_wp2_with (first | ((with_reducible refine gate_callee (f := 18) rfl ?_); refine goesL_ (some 7) rfl rfl Try.func18 (by kernel_rfl) rfl #[.slice A0 l0.length c0, .int .i64 a1] rfl (by (try simp only [List.map_toArray, List.map_cons, List.map_nil]); first | done | rfl | (simp only [List.length_drop, List.length_take]; rfl)) ?_; (with_reducible refine (busy_Work.calls k _ _ l0 a1 t152 _ ?side1 ?side2 A3.out).mono ?_); (case side1 => repeat (first | exact HR0.out | (with_reducible refine Kd.C_alloc ?_ _) | (with_reducible refine Kd.C_drewN ?_ _) | (with_reducible refine Kd.C_drew ?_))); (case side2 => exact HC0.out); rintro e w21 ⟨rfl, hb⟩; refine ⟨_, rfl, ?_⟩; have n0_ := Aside0.mk (below_step (by repeat (first | (with_reducible first | exact HB.out | apply below_alloc | apply pw_below_drewN | apply below_drew1) | exact HB.out)) hb); clear HB; have HB := n0_; clear n0_; (try clear hb); (try clear hb2); (try clear hk); (try clear hi)) | ((with_reducible refine gate_callee (f := 51) rfl ?_); refine goesL_ (some 10) rfl rfl Try.func51 (by kernel_rfl) rfl #[.slice A0 l0.length c0, .int .i64 a1] rfl (by (try simp only [List.map_toArray, List.map_cons, List.map_nil]); first | done | rfl | (simp only [List.length_drop, List.length_take]; rfl)) ?_; (with_reducible refine (horariumref11_Work.calls k _ _ l0 a1 t153 _ ?side1 ?side2 A4.out).mono ?_); (case side1 => repeat (first | exact (Kd.C_below HR0.out HB.out) | (with_reducible refine Kd.C_alloc ?_ _) | (with_reducible refine Kd.C_drewN ?_ _) | (with_reducible refine Kd.C_drew ?_))); (case side2 => exact HC0.out); rintro e w22 ⟨rfl, hb⟩; refine ⟨_, rfl, ?_⟩; have n0_ := Aside0.mk (below_step (by repeat (first | (with_reducible first | exact HB.out | apply below_alloc | apply pw_below_drewN | apply below_drew1) | exact HB.out)) hb); clear HB; have HB := n0_; clear n0_; (try clear hb); (try clear hb2); (try clear hk); (try clear hi)))
    go_ret
    exact ⟨by first | rfl | (simp [errW_none, errW_some] <;> rfl) | (simp [*, errW_none, errW_some] <;> rfl), by repeat (first | (with_reducible first | exact HB.out | apply below_alloc | apply pw_below_drewN | apply below_drew1) | exact HB.out)⟩

/-! ### horariumlaw11_BusyTells: function 8 -/
def horariumlaw11_BusyTells.f (k : Nat) (l0 : List (S28)) (l1 : List (S31)) (a2 : Int) : Option (Bool) := (horariumlaw11_awake.f k).bind fun t158 => (if t158 = true then ((horariumlaw11_few.f l0).bind fun t159 => ((horariumlaw11_tells.f k t159 a2).bind fun t162 => (if t162 = true then ((horariumlaw11_made.f k l1).bind fun t163 => ((horariumlaw11_tells.f k t163 a2).bind fun t166 => (if t166 = true then ((horariumlaw11_made.f k l1).bind fun t167 => ((horariumlaw11_tells.f k t167 (Go.bits .and .i64 a2 255)).bind fun t170 => (some t170))) else (some false)))) else (some false)))) else (some false))
theorem horariumlaw11_BusyTells.mono : ∀ a0 a1 a2 k, LeO (horariumlaw11_BusyTells.f k a0 a1 a2) (horariumlaw11_BusyTells.f (k + 1) a0 a1 a2) := by
  intro a0 a1 a2 k
  unfold horariumlaw11_BusyTells.f
  repeat' first
      | (with_reducible exact horariumlaw11_awake.mono _)
      | (with_reducible exact horariumlaw11_made.mono _ _)
      | (with_reducible exact horariumlaw11_tells.mono _ _ _)
      | (with_reducible exact LeO.refl _)
      | (with_reducible exact LeO.none _)
      | (with_reducible refine LeO.ite ?_ ?_)
      | (with_reducible refine LeO.bind ?_ (fun _ => ?_))
      | exact horariumlaw11_awake.mono _
      | exact horariumlaw11_made.mono _ _
      | exact horariumlaw11_tells.mono _ _ _
      | exact LeO.none _
      | refine LeO.ite ?_ ?_
      | refine LeO.bind ?_ (fun _ => ?_)
set_option maxHeartbeats 8000000 in
set_option maxRecDepth 100000 in
theorem horariumlaw11_BusyTells.calls (k : Nat) (A0 : Option Addr) (c0 : Nat) (l0 : List (S28)) (A1 : Option Addr) (c1 : Nat) (l1 : List (S31)) (a2 : Int) (r : Bool) (w : World) (hr0 : Kd.C k28 w A0 l0.length l0) (hc0 : l0.length ≤ c0) (hr1 : Kd.C k31 w A1 l1.length l1) (hc1 : l1.length ≤ c1) (h : horariumlaw11_BusyTells.f k l0 l1 a2 = some r) :
    Calls Try.prog 8 #[.slice A0 l0.length c0, .slice A1 l1.length c1, .int .i64 a2] w fun e w' => e = .returned (.bool r) ∧ Below w.heap.size w w' := by
  have HR0 := Aside0.mk hr0
  have HC0 := Aside0.mk hc0
  clear hr0 hc0
  have HR1 := Aside0.mk hr1
  have HC1 := Aside0.mk hc1
  clear hr1 hc1
  have HB := Aside0.mk (Below.refl w.heap.size w)
  have H : ((horariumlaw11_awake.f k).bind fun t158 => (if t158 = true then ((horariumlaw11_few.f l0).bind fun t159 => ((horariumlaw11_tells.f k t159 a2).bind fun t162 => (if t162 = true then ((horariumlaw11_made.f k l1).bind fun t163 => ((horariumlaw11_tells.f k t163 a2).bind fun t166 => (if t166 = true then ((horariumlaw11_made.f k l1).bind fun t167 => ((horariumlaw11_tells.f k t167 (Go.bits .and .i64 a2 255)).bind fun t170 => (some t170))) else (some false)))) else (some false)))) else (some false))) = some r := h
  clear h
  replace H := Option.bind_eq_some_iff.mp H
  obtain ⟨t158, A40, H⟩ := H
  replace H : (if t158 = true then ((horariumlaw11_few.f l0).bind fun t159 => ((horariumlaw11_tells.f k t159 a2).bind fun t162 => (if t162 = true then ((horariumlaw11_made.f k l1).bind fun t163 => ((horariumlaw11_tells.f k t163 a2).bind fun t166 => (if t166 = true then ((horariumlaw11_made.f k l1).bind fun t167 => ((horariumlaw11_tells.f k t167 (Go.bits .and .i64 a2 255)).bind fun t170 => (some t170))) else (some false)))) else (some false)))) else (some false)) = some r := H
  have A4 := Aside0.mk A40
  clear A40
  by_cases c5 : t158 = true
  · subst c5
    have H1 : ((horariumlaw11_few.f l0).bind fun t159 => ((horariumlaw11_tells.f k t159 a2).bind fun t162 => (if t162 = true then ((horariumlaw11_made.f k l1).bind fun t163 => ((horariumlaw11_tells.f k t163 a2).bind fun t166 => (if t166 = true then ((horariumlaw11_made.f k l1).bind fun t167 => ((horariumlaw11_tells.f k t167 (Go.bits .and .i64 a2 255)).bind fun t170 => (some t170))) else (some false)))) else (some false)))) = some r := by rw [if_pos rfl] at H; exact H
    clear H
    have H := H1
    clear H1
    replace H := Option.bind_eq_some_iff.mp H
    obtain ⟨t159, A60, H⟩ := H
    replace H : ((horariumlaw11_tells.f k t159 a2).bind fun t162 => (if t162 = true then ((horariumlaw11_made.f k l1).bind fun t163 => ((horariumlaw11_tells.f k t163 a2).bind fun t166 => (if t166 = true then ((horariumlaw11_made.f k l1).bind fun t167 => ((horariumlaw11_tells.f k t167 (Go.bits .and .i64 a2 255)).bind fun t170 => (some t170))) else (some false)))) else (some false))) = some r := H
    have A6 := Aside0.mk A60
    clear A60
    replace H := Option.bind_eq_some_iff.mp H
    obtain ⟨t162, A70, H⟩ := H
    replace H : (if t162 = true then ((horariumlaw11_made.f k l1).bind fun t163 => ((horariumlaw11_tells.f k t163 a2).bind fun t166 => (if t166 = true then ((horariumlaw11_made.f k l1).bind fun t167 => ((horariumlaw11_tells.f k t167 (Go.bits .and .i64 a2 255)).bind fun t170 => (some t170))) else (some false)))) else (some false)) = some r := H
    have A7 := Aside0.mk A70
    clear A70
    by_cases c8 : t162 = true
    · subst c8
      have H1 : ((horariumlaw11_made.f k l1).bind fun t163 => ((horariumlaw11_tells.f k t163 a2).bind fun t166 => (if t166 = true then ((horariumlaw11_made.f k l1).bind fun t167 => ((horariumlaw11_tells.f k t167 (Go.bits .and .i64 a2 255)).bind fun t170 => (some t170))) else (some false)))) = some r := by rw [if_pos rfl] at H; exact H
      clear H
      have H := H1
      clear H1
      replace H := Option.bind_eq_some_iff.mp H
      obtain ⟨t163, A90, H⟩ := H
      replace H : ((horariumlaw11_tells.f k t163 a2).bind fun t166 => (if t166 = true then ((horariumlaw11_made.f k l1).bind fun t167 => ((horariumlaw11_tells.f k t167 (Go.bits .and .i64 a2 255)).bind fun t170 => (some t170))) else (some false))) = some r := H
      have A9 := Aside0.mk A90
      clear A90
      replace H := Option.bind_eq_some_iff.mp H
      obtain ⟨t166, A100, H⟩ := H
      replace H : (if t166 = true then ((horariumlaw11_made.f k l1).bind fun t167 => ((horariumlaw11_tells.f k t167 (Go.bits .and .i64 a2 255)).bind fun t170 => (some t170))) else (some false)) = some r := H
      have A10 := Aside0.mk A100
      clear A100
      by_cases c11 : t166 = true
      · subst c11
        have H1 : ((horariumlaw11_made.f k l1).bind fun t167 => ((horariumlaw11_tells.f k t167 (Go.bits .and .i64 a2 255)).bind fun t170 => (some t170))) = some r := by rw [if_pos rfl] at H; exact H
        clear H
        have H := H1
        clear H1
        replace H := Option.bind_eq_some_iff.mp H
        obtain ⟨t167, A120, H⟩ := H
        replace H : ((horariumlaw11_tells.f k t167 (Go.bits .and .i64 a2 255)).bind fun t170 => (some t170)) = some r := H
        have A12 := Aside0.mk A120
        clear A120
        replace H := Option.bind_eq_some_iff.mp H
        obtain ⟨t170, A130, H⟩ := H
        replace H : (some t170) = some r := H
        have A13 := Aside0.mk A130
        clear A130
        obtain rfl := Option.some.inj H
        go_enter Try.func8, Try.ntmps8
        go_wp2_with (first | ((with_reducible refine gate_callee (f := 16) rfl ?_); refine goesL_ (some 8) rfl rfl Try.func16 (by kernel_rfl) rfl #[] rfl (by (try simp only [List.map_toArray, List.map_cons, List.map_nil]); first | done | rfl | (simp only [List.length_drop, List.length_take]; rfl)) ?_; (with_reducible refine (horariumlaw11_awake.calls k  true _ A4.out).mono ?_); rintro e w14 ⟨rfl, hb⟩; refine ⟨_, rfl, ?_⟩; have n0_ := Aside0.mk (below_step (by repeat (first | (with_reducible first | exact HB.out | apply below_alloc | apply pw_below_drewN | apply below_drew1) | exact HB.out)) hb); clear HB; have HB := n0_; clear n0_; (try clear hb); (try clear hb2); (try clear hk); (try clear hi)) | (go_at_call 23; (with_reducible refine (horariumlaw11_few.calls (fun k_ => k_ < w.heap.size) _ _ l0 t159 _ ?side1 A6.out).mono ?_); (case side1 => exact Kd.V_mk HC0.out (Kd.F_below (Kd.C_F k28_heap HR0.out) (by repeat (first | (with_reducible first | exact HB.out | apply below_alloc | apply pw_below_drewN | apply below_drew1) | exact HB.out)))); rintro e w15 ⟨v160, rfl, ho0, hb⟩; have n0_ := Aside0.mk (Kd.V_lower (Kd.V_mono (ok' := fun k_ => True) ho0 (fun k_ hk_ => trivial)) (below_size (by repeat (first | (with_reducible first | exact HB.out | apply below_alloc | apply pw_below_drewN | apply below_drew1) | exact HB.out)))); have n1_ := Aside0.mk (below_step (by repeat (first | (with_reducible first | exact HB.out | apply below_alloc | apply pw_below_drewN | apply below_drew1) | exact HB.out)) hb); clear HB; have HO161 := n0_; have HB := n1_; clear n0_ n1_; (try clear hb); (try clear hb2); (try clear hk); (try clear hi); (try clear ho0); obtain ⟨Ao16, co16, eo16⟩ := Kd.V_slice HO161.out; subst eo16) | (go_at_call 26; (with_reducible refine (horariumlaw11_tells.calls k _ _ t159 a2 true _ ?side1 ?side2 A7.out).mono ?_); (case side1 => repeat (first | exact (Kd.V_reads' HO161.out).2.2 | (with_reducible refine Kd.C_alloc ?_ _) | (with_reducible refine Kd.C_drewN ?_ _) | (with_reducible refine Kd.C_drew ?_))); (case side2 => exact (Kd.V_reads' HO161.out).2.1); clear A7; rintro e w17 ⟨rfl, hb⟩; have n0_ := Aside0.mk (Kd.V_below (by (with_reducible repeat (first | apply Kd.V_alloc | apply Kd.V_drewN | apply Kd.V_drew)); exact HO161.out) hb); have n1_ := Aside0.mk (below_step (by repeat (first | (with_reducible first | exact HB.out | apply below_alloc | apply pw_below_drewN | apply below_drew1) | exact HB.out)) hb); clear HO161; clear HB; have HO161 := n0_; have HB := n1_; clear n0_ n1_; (try clear hb); (try clear hb2); (try clear hk); (try clear hi)) | (go_at_call 17; (with_reducible refine (horariumlaw11_made.calls k _ _ l1 t163 _ ?side1 ?side2 A9.out).mono ?_); (case side1 => repeat (first | exact (Kd.C_below HR1.out HB.out) | (with_reducible refine Kd.C_alloc ?_ _) | (with_reducible refine Kd.C_drewN ?_ _) | (with_reducible refine Kd.C_drew ?_))); (case side2 => exact HC1.out); clear A9; rintro e w18 ⟨v164, rfl, ho0, hb⟩; have n0_ := Aside0.mk (Kd.V_elder' (by (with_reducible repeat (first | apply Kd.V_alloc | apply Kd.V_drewN | apply Kd.V_drew)); exact HO161.out) (Kd.R_base ho0) hb); have n1_ := Aside0.mk (Kd.R_lower ho0 (below_size (by repeat (first | (with_reducible first | exact HB.out | apply below_alloc | apply pw_below_drewN | apply below_drew1) | exact HB.out)))); have n2_ := Aside0.mk (below_step (by repeat (first | (with_reducible first | exact HB.out | apply below_alloc | apply pw_below_drewN | apply below_drew1) | exact HB.out)) hb); clear HO161; clear HB; have HO161 := n0_; have HO165 := n1_; have HB := n2_; clear n0_ n1_ n2_; (try clear hb); (try clear hb2); (try clear hk); (try clear hi); (try clear ho0); obtain ⟨Ao19, co19, eo19⟩ := Kd.R_slice HO165.out; subst eo19) | (go_at_call 26; (with_reducible refine (horariumlaw11_tells.calls k _ _ t163 a2 true _ ?side1 ?side2 A10.out).mono ?_); (case side1 => repeat (first | exact (Kd.R_reads' HO165.out).2.2 | (with_reducible refine Kd.C_alloc ?_ _) | (with_reducible refine Kd.C_drewN ?_ _) | (with_reducible refine Kd.C_drew ?_))); (case side2 => exact (Kd.R_reads' HO165.out).2.1); clear A10; rintro e w20 ⟨rfl, hb⟩; have n0_ := Aside0.mk (Kd.V_below (by (with_reducible repeat (first | apply Kd.V_alloc | apply Kd.V_drewN | apply Kd.V_drew)); exact HO161.out) hb); have n1_ := Aside0.mk (Kd.R_below (by (with_reducible repeat (first | apply Kd.R_alloc | apply Kd.R_drewN | apply Kd.R_drew)); exact HO165.out) hb); have n2_ := Aside0.mk (below_step (by repeat (first | (with_reducible first | exact HB.out | apply below_alloc | apply pw_below_drewN | apply below_drew1) | exact HB.out)) hb); clear HO161; clear HO165; clear HB; have HO161 := n0_; have HO165 := n1_; have HB := n2_; clear n0_ n1_ n2_; (try clear hb); (try clear hb2); (try clear hk); (try clear hi)) | (go_at_call 17; (with_reducible refine (horariumlaw11_made.calls k _ _ l1 t167 _ ?side1 ?side2 A12.out).mono ?_); (case side1 => repeat (first | exact (Kd.C_below HR1.out HB.out) | (with_reducible refine Kd.C_alloc ?_ _) | (with_reducible refine Kd.C_drewN ?_ _) | (with_reducible refine Kd.C_drew ?_))); (case side2 => exact HC1.out); clear A12; rintro e w21 ⟨v168, rfl, ho0, hb⟩; have n0_ := Aside0.mk (Kd.V_elder' (by (with_reducible repeat (first | apply Kd.V_alloc | apply Kd.V_drewN | apply Kd.V_drew)); exact HO161.out) (Kd.R_base ho0) hb); have n1_ := Aside0.mk (Kd.R_elder' (by (with_reducible repeat (first | apply Kd.R_alloc | apply Kd.R_drewN | apply Kd.R_drew)); exact HO165.out) (Kd.R_base ho0) hb); have n2_ := Aside0.mk (Kd.R_lower (Kd.R_new' ho0 (Kd.R_lt (by (with_reducible repeat (first | apply Kd.R_alloc | apply Kd.R_drewN | apply Kd.R_drew)); exact HO165.out))) (below_size (by repeat (first | (with_reducible first | exact HB.out | apply below_alloc | apply pw_below_drewN | apply below_drew1) | exact HB.out)))); have n3_ := Aside0.mk (below_step (by repeat (first | (with_reducible first | exact HB.out | apply below_alloc | apply pw_below_drewN | apply below_drew1) | exact HB.out)) hb); clear HO161; clear HO165; clear HB; have HO161 := n0_; have HO165 := n1_; have HO169 := n2_; have HB := n3_; clear n0_ n1_ n2_ n3_; (try clear hb); (try clear hb2); (try clear hk); (try clear hi); (try clear ho0); obtain ⟨Ao22, co22, eo22⟩ := Kd.R_slice HO169.out; subst eo22) | (go_at_call 26; (with_reducible refine (horariumlaw11_tells.calls k _ _ t167 (Go.bits .and .i64 a2 255) t170 _ ?side1 ?side2 A13.out).mono ?_); (case side1 => repeat (first | exact (Kd.R_reads' HO169.out).2.2 | (with_reducible refine Kd.C_alloc ?_ _) | (with_reducible refine Kd.C_drewN ?_ _) | (with_reducible refine Kd.C_drew ?_))); (case side2 => exact (Kd.R_reads' HO169.out).2.1); clear A13; rintro e w23 ⟨rfl, hb⟩; have n0_ := Aside0.mk (Kd.V_below (by (with_reducible repeat (first | apply Kd.V_alloc | apply Kd.V_drewN | apply Kd.V_drew)); exact HO161.out) hb); have n1_ := Aside0.mk (Kd.R_below (by (with_reducible repeat (first | apply Kd.R_alloc | apply Kd.R_drewN | apply Kd.R_drew)); exact HO165.out) hb); have n2_ := Aside0.mk (Kd.R_below (by (with_reducible repeat (first | apply Kd.R_alloc | apply Kd.R_drewN | apply Kd.R_drew)); exact HO169.out) hb); have n3_ := Aside0.mk (below_step (by repeat (first | (with_reducible first | exact HB.out | apply below_alloc | apply pw_below_drewN | apply below_drew1) | exact HB.out)) hb); clear HO161; clear HO165; clear HO169; clear HB; have HO161 := n0_; have HO165 := n1_; have HO169 := n2_; have HB := n3_; clear n0_ n1_ n2_ n3_; (try clear hb); (try clear hb2); (try clear hk); (try clear hi)))
        go_ret
        exact ⟨by first | rfl | (simp [errW_none, errW_some] <;> rfl) | (simp [*, errW_none, errW_some] <;> rfl), by repeat (first | (with_reducible first | exact HB.out | apply below_alloc | apply pw_below_drewN | apply below_drew1) | exact HB.out)⟩
      · replace c11 := Bool.eq_false_iff.mpr c11
        subst c11
        have H1 : (some false) = some r := by rw [if_neg (show ¬ (false = true) by decide)] at H; exact H
        clear H
        have H := H1
        clear H1
        obtain rfl := Option.some.inj H
        go_enter Try.func8, Try.ntmps8
        go_wp2_with (first | ((with_reducible refine gate_callee (f := 16) rfl ?_); refine goesL_ (some 8) rfl rfl Try.func16 (by kernel_rfl) rfl #[] rfl (by (try simp only [List.map_toArray, List.map_cons, List.map_nil]); first | done | rfl | (simp only [List.length_drop, List.length_take]; rfl)) ?_; (with_reducible refine (horariumlaw11_awake.calls k  true _ A4.out).mono ?_); rintro e w24 ⟨rfl, hb⟩; refine ⟨_, rfl, ?_⟩; have n0_ := Aside0.mk (below_step (by repeat (first | (with_reducible first | exact HB.out | apply below_alloc | apply pw_below_drewN | apply below_drew1) | exact HB.out)) hb); clear HB; have HB := n0_; clear n0_; (try clear hb); (try clear hb2); (try clear hk); (try clear hi)) | (go_at_call 23; (with_reducible refine (horariumlaw11_few.calls (fun k_ => k_ < w.heap.size) _ _ l0 t159 _ ?side1 A6.out).mono ?_); (case side1 => exact Kd.V_mk HC0.out (Kd.F_below (Kd.C_F k28_heap HR0.out) (by repeat (first | (with_reducible first | exact HB.out | apply below_alloc | apply pw_below_drewN | apply below_drew1) | exact HB.out)))); rintro e w25 ⟨v160, rfl, ho0, hb⟩; have n0_ := Aside0.mk (Kd.V_lower (Kd.V_mono (ok' := fun k_ => True) ho0 (fun k_ hk_ => trivial)) (below_size (by repeat (first | (with_reducible first | exact HB.out | apply below_alloc | apply pw_below_drewN | apply below_drew1) | exact HB.out)))); have n1_ := Aside0.mk (below_step (by repeat (first | (with_reducible first | exact HB.out | apply below_alloc | apply pw_below_drewN | apply below_drew1) | exact HB.out)) hb); clear HB; have HO161 := n0_; have HB := n1_; clear n0_ n1_; (try clear hb); (try clear hb2); (try clear hk); (try clear hi); (try clear ho0); obtain ⟨Ao26, co26, eo26⟩ := Kd.V_slice HO161.out; subst eo26) | (go_at_call 26; (with_reducible refine (horariumlaw11_tells.calls k _ _ t159 a2 true _ ?side1 ?side2 A7.out).mono ?_); (case side1 => repeat (first | exact (Kd.V_reads' HO161.out).2.2 | (with_reducible refine Kd.C_alloc ?_ _) | (with_reducible refine Kd.C_drewN ?_ _) | (with_reducible refine Kd.C_drew ?_))); (case side2 => exact (Kd.V_reads' HO161.out).2.1); clear A7; rintro e w27 ⟨rfl, hb⟩; have n0_ := Aside0.mk (Kd.V_below (by (with_reducible repeat (first | apply Kd.V_alloc | apply Kd.V_drewN | apply Kd.V_drew)); exact HO161.out) hb); have n1_ := Aside0.mk (below_step (by repeat (first | (with_reducible first | exact HB.out | apply below_alloc | apply pw_below_drewN | apply below_drew1) | exact HB.out)) hb); clear HO161; clear HB; have HO161 := n0_; have HB := n1_; clear n0_ n1_; (try clear hb); (try clear hb2); (try clear hk); (try clear hi)) | (go_at_call 17; (with_reducible refine (horariumlaw11_made.calls k _ _ l1 t163 _ ?side1 ?side2 A9.out).mono ?_); (case side1 => repeat (first | exact (Kd.C_below HR1.out HB.out) | (with_reducible refine Kd.C_alloc ?_ _) | (with_reducible refine Kd.C_drewN ?_ _) | (with_reducible refine Kd.C_drew ?_))); (case side2 => exact HC1.out); rintro e w28 ⟨v164, rfl, ho0, hb⟩; have n0_ := Aside0.mk (Kd.V_elder' (by (with_reducible repeat (first | apply Kd.V_alloc | apply Kd.V_drewN | apply Kd.V_drew)); exact HO161.out) (Kd.R_base ho0) hb); have n1_ := Aside0.mk (Kd.R_lower ho0 (below_size (by repeat (first | (with_reducible first | exact HB.out | apply below_alloc | apply pw_below_drewN | apply below_drew1) | exact HB.out)))); have n2_ := Aside0.mk (below_step (by repeat (first | (with_reducible first | exact HB.out | apply below_alloc | apply pw_below_drewN | apply below_drew1) | exact HB.out)) hb); clear HO161; clear HB; have HO161 := n0_; have HO165 := n1_; have HB := n2_; clear n0_ n1_ n2_; (try clear hb); (try clear hb2); (try clear hk); (try clear hi); (try clear ho0); obtain ⟨Ao29, co29, eo29⟩ := Kd.R_slice HO165.out; subst eo29) | (go_at_call 26; (with_reducible refine (horariumlaw11_tells.calls k _ _ t163 a2 false _ ?side1 ?side2 A10.out).mono ?_); (case side1 => repeat (first | exact (Kd.R_reads' HO165.out).2.2 | (with_reducible refine Kd.C_alloc ?_ _) | (with_reducible refine Kd.C_drewN ?_ _) | (with_reducible refine Kd.C_drew ?_))); (case side2 => exact (Kd.R_reads' HO165.out).2.1); clear A10; rintro e w30 ⟨rfl, hb⟩; have n0_ := Aside0.mk (Kd.V_below (by (with_reducible repeat (first | apply Kd.V_alloc | apply Kd.V_drewN | apply Kd.V_drew)); exact HO161.out) hb); have n1_ := Aside0.mk (Kd.R_below (by (with_reducible repeat (first | apply Kd.R_alloc | apply Kd.R_drewN | apply Kd.R_drew)); exact HO165.out) hb); have n2_ := Aside0.mk (below_step (by repeat (first | (with_reducible first | exact HB.out | apply below_alloc | apply pw_below_drewN | apply below_drew1) | exact HB.out)) hb); clear HO161; clear HO165; clear HB; have HO161 := n0_; have HO165 := n1_; have HB := n2_; clear n0_ n1_ n2_; (try clear hb); (try clear hb2); (try clear hk); (try clear hi)))
        go_ret
        exact ⟨by first | rfl | (simp [errW_none, errW_some] <;> rfl) | (simp [*, errW_none, errW_some] <;> rfl), by repeat (first | (with_reducible first | exact HB.out | apply below_alloc | apply pw_below_drewN | apply below_drew1) | exact HB.out)⟩
    · replace c8 := Bool.eq_false_iff.mpr c8
      subst c8
      have H1 : (some false) = some r := by rw [if_neg (show ¬ (false = true) by decide)] at H; exact H
      clear H
      have H := H1
      clear H1
      obtain rfl := Option.some.inj H
      go_enter Try.func8, Try.ntmps8
      go_wp2_with (first | ((with_reducible refine gate_callee (f := 16) rfl ?_); refine goesL_ (some 8) rfl rfl Try.func16 (by kernel_rfl) rfl #[] rfl (by (try simp only [List.map_toArray, List.map_cons, List.map_nil]); first | done | rfl | (simp only [List.length_drop, List.length_take]; rfl)) ?_; (with_reducible refine (horariumlaw11_awake.calls k  true _ A4.out).mono ?_); rintro e w31 ⟨rfl, hb⟩; refine ⟨_, rfl, ?_⟩; have n0_ := Aside0.mk (below_step (by repeat (first | (with_reducible first | exact HB.out | apply below_alloc | apply pw_below_drewN | apply below_drew1) | exact HB.out)) hb); clear HB; have HB := n0_; clear n0_; (try clear hb); (try clear hb2); (try clear hk); (try clear hi)) | (go_at_call 23; (with_reducible refine (horariumlaw11_few.calls (fun k_ => k_ < w.heap.size) _ _ l0 t159 _ ?side1 A6.out).mono ?_); (case side1 => exact Kd.V_mk HC0.out (Kd.F_below (Kd.C_F k28_heap HR0.out) (by repeat (first | (with_reducible first | exact HB.out | apply below_alloc | apply pw_below_drewN | apply below_drew1) | exact HB.out)))); rintro e w32 ⟨v160, rfl, ho0, hb⟩; have n0_ := Aside0.mk (Kd.V_lower (Kd.V_mono (ok' := fun k_ => True) ho0 (fun k_ hk_ => trivial)) (below_size (by repeat (first | (with_reducible first | exact HB.out | apply below_alloc | apply pw_below_drewN | apply below_drew1) | exact HB.out)))); have n1_ := Aside0.mk (below_step (by repeat (first | (with_reducible first | exact HB.out | apply below_alloc | apply pw_below_drewN | apply below_drew1) | exact HB.out)) hb); clear HB; have HO161 := n0_; have HB := n1_; clear n0_ n1_; (try clear hb); (try clear hb2); (try clear hk); (try clear hi); (try clear ho0); obtain ⟨Ao33, co33, eo33⟩ := Kd.V_slice HO161.out; subst eo33) | (go_at_call 26; (with_reducible refine (horariumlaw11_tells.calls k _ _ t159 a2 false _ ?side1 ?side2 A7.out).mono ?_); (case side1 => repeat (first | exact (Kd.V_reads' HO161.out).2.2 | (with_reducible refine Kd.C_alloc ?_ _) | (with_reducible refine Kd.C_drewN ?_ _) | (with_reducible refine Kd.C_drew ?_))); (case side2 => exact (Kd.V_reads' HO161.out).2.1); rintro e w34 ⟨rfl, hb⟩; have n0_ := Aside0.mk (Kd.V_below (by (with_reducible repeat (first | apply Kd.V_alloc | apply Kd.V_drewN | apply Kd.V_drew)); exact HO161.out) hb); have n1_ := Aside0.mk (below_step (by repeat (first | (with_reducible first | exact HB.out | apply below_alloc | apply pw_below_drewN | apply below_drew1) | exact HB.out)) hb); clear HO161; clear HB; have HO161 := n0_; have HB := n1_; clear n0_ n1_; (try clear hb); (try clear hb2); (try clear hk); (try clear hi)))
      go_ret
      exact ⟨by first | rfl | (simp [errW_none, errW_some] <;> rfl) | (simp [*, errW_none, errW_some] <;> rfl), by repeat (first | (with_reducible first | exact HB.out | apply below_alloc | apply pw_below_drewN | apply below_drew1) | exact HB.out)⟩
  · replace c5 := Bool.eq_false_iff.mpr c5
    subst c5
    have H1 : (some false) = some r := by rw [if_neg (show ¬ (false = true) by decide)] at H; exact H
    clear H
    have H := H1
    clear H1
    obtain rfl := Option.some.inj H
    go_enter Try.func8, Try.ntmps8
    go_wp2_with (first | ((with_reducible refine gate_callee (f := 16) rfl ?_); refine goesL_ (some 8) rfl rfl Try.func16 (by kernel_rfl) rfl #[] rfl (by (try simp only [List.map_toArray, List.map_cons, List.map_nil]); first | done | rfl | (simp only [List.length_drop, List.length_take]; rfl)) ?_; (with_reducible refine (horariumlaw11_awake.calls k  false _ A4.out).mono ?_); rintro e w35 ⟨rfl, hb⟩; refine ⟨_, rfl, ?_⟩; have n0_ := Aside0.mk (below_step (by repeat (first | (with_reducible first | exact HB.out | apply below_alloc | apply pw_below_drewN | apply below_drew1) | exact HB.out)) hb); clear HB; have HB := n0_; clear n0_; (try clear hb); (try clear hb2); (try clear hk); (try clear hi)))
    go_ret
    exact ⟨by first | rfl | (simp [errW_none, errW_some] <;> rfl) | (simp [*, errW_none, errW_some] <;> rfl), by repeat (first | (with_reducible first | exact HB.out | apply below_alloc | apply pw_below_drewN | apply below_drew1) | exact HB.out)⟩

def WF28 (x : S28) : Prop := (Lit.int .i64 x.f0).wf = true ∧ (Lit.int .i64 x.f1).wf = true ∧ (Lit.int .i64 x.f2).wf = true ∧ (Lit.int .i64 x.f3).wf = true ∧ (Lit.int .i64 x.f4).wf = true
theorem openk28 {H : Type} {enc : TypeId × Value → H} {W : World} {base : Nat} {spare : Nat → Bool} {held : Bool} {m : Nat} {cs : List Value} {x : DataW H × List MemPlace} (h : DataW.trod enc Try.prog W base spare held m 28 cs = some x) : ∃ y : S28, cs = [.int .i64 y.f0, .int .i64 y.f1, .int .i64 y.f2, .int .i64 y.f3, .int .i64 y.f4] ∧ WF28 y := by
  obtain ⟨xs, n, _, _, hl, hx, hf⟩ := DataW.trod_struct Try.underlying28 h
  rw [show Try.prog.cellsOf 28 = 5 from by kernel_rfl] at hl
  obtain ⟨c0, c1, c2, c3, c4, rfl⟩ : ∃ c0 c1 c2 c3 c4, cs = [c0, c1, c2, c3, c4] := by match cs, hl with | [c0, c1, c2, c3, c4], _ => exact ⟨c0, c1, c2, c3, c4, rfl⟩
  obtain ⟨y0, y1, y2, y3, y4, rfl⟩ : ∃ y0 y1 y2 y3 y4, xs = [y0, y1, y2, y3, y4] := by match xs, hx with | [y0, y1, y2, y3, y4], _ => exact ⟨y0, y1, y2, y3, y4, rfl⟩
  have g0 : DataW.trod enc Try.prog W base spare held n 3 (List.take (Try.prog.cellsOf 3) (List.drop 0 _)) = some y0 := hf 0 _ rfl
  rw [show Try.prog.cellsOf 3 = 1 from by kernel_rfl] at g0
  obtain ⟨v0, q0, _, w0⟩ := DataW.trod_int (cs := [c0]) (x := y0) Try.underlying3 g0
  simp only [List.cons.injEq, and_true] at q0
  subst q0
  have g1 : DataW.trod enc Try.prog W base spare held n 2 (List.take (Try.prog.cellsOf 2) (List.drop 1 _)) = some y1 := hf 1 _ rfl
  rw [show Try.prog.cellsOf 2 = 1 from by kernel_rfl] at g1
  obtain ⟨v1, q1, _, w1⟩ := DataW.trod_int (cs := [c1]) (x := y1) Try.underlying2 g1
  simp only [List.cons.injEq, and_true] at q1
  subst q1
  have g2 : DataW.trod enc Try.prog W base spare held n 2 (List.take (Try.prog.cellsOf 2) (List.drop 2 _)) = some y2 := hf 2 _ rfl
  rw [show Try.prog.cellsOf 2 = 1 from by kernel_rfl] at g2
  obtain ⟨v2, q2, _, w2⟩ := DataW.trod_int (cs := [c2]) (x := y2) Try.underlying2 g2
  simp only [List.cons.injEq, and_true] at q2
  subst q2
  have g3 : DataW.trod enc Try.prog W base spare held n 2 (List.take (Try.prog.cellsOf 2) (List.drop 3 _)) = some y3 := hf 3 _ rfl
  rw [show Try.prog.cellsOf 2 = 1 from by kernel_rfl] at g3
  obtain ⟨v3, q3, _, w3⟩ := DataW.trod_int (cs := [c3]) (x := y3) Try.underlying2 g3
  simp only [List.cons.injEq, and_true] at q3
  subst q3
  have g4 : DataW.trod enc Try.prog W base spare held n 3 (List.take (Try.prog.cellsOf 3) (List.drop 4 _)) = some y4 := hf 4 _ rfl
  rw [show Try.prog.cellsOf 3 = 1 from by kernel_rfl] at g4
  obtain ⟨v4, q4, _, w4⟩ := DataW.trod_int (cs := [c4]) (x := y4) Try.underlying3 g4
  simp only [List.cons.injEq, and_true] at q4
  subst q4
  refine ⟨⟨v0, v1, v2, v3, v4⟩, rfl, ?_⟩
  unfold WF28
  exact ⟨w0, w1, w2, w3, w4⟩
def WF31 (x : S31) : Prop := (Lit.int .i64 x.f0).wf = true ∧ (Lit.int .i64 x.f1).wf = true ∧ (Lit.int .i64 x.f2).wf = true
theorem openk31 {H : Type} {enc : TypeId × Value → H} {W : World} {base : Nat} {spare : Nat → Bool} {held : Bool} {m : Nat} {cs : List Value} {x : DataW H × List MemPlace} (h : DataW.trod enc Try.prog W base spare held m 31 cs = some x) : ∃ y : S31, cs = [.int .i64 y.f0, .int .i64 y.f1, .int .i64 y.f2] ∧ WF31 y := by
  obtain ⟨xs, n, _, _, hl, hx, hf⟩ := DataW.trod_array Try.underlying31 h
  rw [show Try.prog.cellsOf 31 = 3 from by kernel_rfl] at hl
  obtain ⟨c0, c1, c2, rfl⟩ : ∃ c0 c1 c2, cs = [c0, c1, c2] := by match cs, hl with | [c0, c1, c2], _ => exact ⟨c0, c1, c2, rfl⟩
  obtain ⟨y0, y1, y2, rfl⟩ : ∃ y0 y1 y2, xs = [y0, y1, y2] := by match xs, hx with | [y0, y1, y2], _ => exact ⟨y0, y1, y2, rfl⟩
  have g0 := hf 0 (by omega)
  rw [show Try.prog.cellsOf 3 = 1 from by kernel_rfl] at g0
  obtain ⟨v0, q0, _, w0⟩ := DataW.trod_int (cs := [c0]) (x := y0) Try.underlying3 g0
  simp only [List.cons.injEq, and_true] at q0
  subst q0
  have g1 := hf 1 (by omega)
  rw [show Try.prog.cellsOf 3 = 1 from by kernel_rfl] at g1
  obtain ⟨v1, q1, _, w1⟩ := DataW.trod_int (cs := [c1]) (x := y1) Try.underlying3 g1
  simp only [List.cons.injEq, and_true] at q1
  subst q1
  have g2 := hf 2 (by omega)
  rw [show Try.prog.cellsOf 3 = 1 from by kernel_rfl] at g2
  obtain ⟨v2, q2, _, w2⟩ := DataW.trod_int (cs := [c2]) (x := y2) Try.underlying3 g2
  simp only [List.cons.injEq, and_true] at q2
  subst q2
  refine ⟨⟨v0, v1, v2⟩, rfl, ?_⟩
  unfold WF31
  exact ⟨w0, w1, w2⟩
theorem addr_add_add (a : Addr) (i j : Nat) : (a.add i).add j = a.add (i + j) := by
  unfold Addr.add
  by_cases hi : i = 0 <;> by_cases hj : j = 0 <;> simp [hi, hj, Nat.add_assoc]
theorem rowsk28 {H : Type} {enc : TypeId × Value → H} {W : World} {base : Nat} {spare : Nat → Bool} {held : Bool} {t : Nat} {a : Option Addr} {len cap : Nat} {d : DataW H} {ps : List MemPlace} (hu : Try.prog.underlying t = some (.slice 28)) (h : DataW.Trod enc Try.prog W base spare held t (.slice a len cap) d ps) : ∃ l : List S28, l.length = len ∧ Kd.C k28 W a l.length l ∧ l.length ≤ cap ∧ ∀ x ∈ l, WF28 x := by
  obtain ⟨fuel, hf⟩ := h
  rcases Go.Deep.open_slice hu hf with ⟨hcs, _⟩ | ⟨x, l, c, m, n, D, Pl, hcs, hb, hl, hm, hmm, _, hel⟩
  · simp [Value.cells] at hcs
    obtain ⟨rfl, rfl, rfl⟩ := hcs
    exact ⟨[], rfl, Kd.C_nil _ _, Nat.le_refl _, by simp⟩
  · simp [Value.cells] at hcs
    obtain ⟨rfl, rfl, rfl⟩ := hcs
    have hle : len ≤ m := by rw [hmm]; split <;> omega
    rw [show Try.prog.cellsOf 28 = 5 from by kernel_rfl] at hel
    have hc : ∀ i, i < len → ∃ y : S28, W.cells? base (x.add (i * 5)) 5 = some [.int .i64 y.f0, .int .i64 y.f1, .int .i64 y.f2, .int .i64 y.f3, .int .i64 y.f4] ∧ WF28 y := by
      intro i hi
      obtain ⟨cs', h1, h2⟩ := hel i (by omega)
      obtain ⟨y, rfl, wy⟩ := openk28 h2
      exact ⟨y, h1, wy⟩
    haveI : Inhabited S28 := ⟨z28⟩
    obtain ⟨Y, hY⟩ := Go.Deep.choose_lt hc
    have hlen : ((List.range len).map Y).length = len := by simp
    refine ⟨(List.range len).map Y, hlen, ⟨rfl, by unfold maxLen at hm; omega, fun _ => ⟨x, rfl, fun j p hj => ?_⟩⟩, by omega, ?_⟩
    · obtain ⟨hj1, hj2⟩ := List.getElem?_eq_some_iff.1 hj
      have hj3 : j < len := by omega
      have hp : p = Y j := by rw [← hj2]; simp
      subst hp
      obtain ⟨h1, _⟩ := hY j hj3
      obtain ⟨_, _, h2⟩ := World.cells?_some h1
      refine ⟨[.int .i64 (Y j).f0, .int .i64 (Y j).f1, .int .i64 (Y j).f2, .int .i64 (Y j).f3, .int .i64 (Y j).f4], rfl, k28_mk _ _, fun i u hu => ?_⟩
      have hi : i < 5 := (List.getElem?_eq_some_iff.1 hu).1
      have h3 := h2 i hi
      rw [hu, addr_add_add] at h3
      exact h3
    · intro y hy
      obtain ⟨i, hi, rfl⟩ := List.mem_map.1 hy
      exact (hY i (by simpa using hi)).2
theorem sizedk28 {H : Type} {enc : TypeId × Value → H} {W : World} {base : Nat} {spare : Nat → Bool} {held : Bool} {t : Nat} {a : Option Addr} {len cap : Nat} {d : DataW H} {ps : List MemPlace} {ts : List TypeId} {ds : List (DataW H)} {j : Nat}
    (hsz : (DataW.weightsEach Try.prog ts ds).all (· ≤ reachBytes) = true) (ht : ts[j]? = some t) (hd : ds[j]? = some d) (hu : Try.prog.underlying t = some (.slice 28)) (h : DataW.Trod enc Try.prog W base spare held t (.slice a len cap) d ps) : len * 40 ≤ 140737488351232 := by
  obtain ⟨fuel, hf⟩ := h
  rcases Go.Deep.open_slice hu hf with ⟨hcs, _⟩ | ⟨x, l, c, m, n, D, Pl, hcs, hb, hl, hm, hmm, hx, hel⟩
  · simp [Value.cells] at hcs
    obtain ⟨rfl, rfl, rfl⟩ := hcs
    simp
  · simp [Value.cells] at hcs
    obtain ⟨rfl, rfl, rfl⟩ := hcs
    obtain ⟨rfl, _⟩ := Prod.mk.inj hx
    have z := sized_slice hsz ht hd hu
    rw [show Try.prog.bytesOf 28 = 40 from by kernel_rfl, List.length_map, List.length_range] at z
    exact Nat.le_trans (Nat.mul_le_mul_right _ (Nat.le_add_right _ _)) z
theorem rowsk31 {H : Type} {enc : TypeId × Value → H} {W : World} {base : Nat} {spare : Nat → Bool} {held : Bool} {t : Nat} {a : Option Addr} {len cap : Nat} {d : DataW H} {ps : List MemPlace} (hu : Try.prog.underlying t = some (.slice 31)) (h : DataW.Trod enc Try.prog W base spare held t (.slice a len cap) d ps) : ∃ l : List S31, l.length = len ∧ Kd.C k31 W a l.length l ∧ l.length ≤ cap ∧ ∀ x ∈ l, WF31 x := by
  obtain ⟨fuel, hf⟩ := h
  rcases Go.Deep.open_slice hu hf with ⟨hcs, _⟩ | ⟨x, l, c, m, n, D, Pl, hcs, hb, hl, hm, hmm, _, hel⟩
  · simp [Value.cells] at hcs
    obtain ⟨rfl, rfl, rfl⟩ := hcs
    exact ⟨[], rfl, Kd.C_nil _ _, Nat.le_refl _, by simp⟩
  · simp [Value.cells] at hcs
    obtain ⟨rfl, rfl, rfl⟩ := hcs
    have hle : len ≤ m := by rw [hmm]; split <;> omega
    rw [show Try.prog.cellsOf 31 = 3 from by kernel_rfl] at hel
    have hc : ∀ i, i < len → ∃ y : S31, W.cells? base (x.add (i * 3)) 3 = some [.int .i64 y.f0, .int .i64 y.f1, .int .i64 y.f2] ∧ WF31 y := by
      intro i hi
      obtain ⟨cs', h1, h2⟩ := hel i (by omega)
      obtain ⟨y, rfl, wy⟩ := openk31 h2
      exact ⟨y, h1, wy⟩
    haveI : Inhabited S31 := ⟨z31⟩
    obtain ⟨Y, hY⟩ := Go.Deep.choose_lt hc
    have hlen : ((List.range len).map Y).length = len := by simp
    refine ⟨(List.range len).map Y, hlen, ⟨rfl, by unfold maxLen at hm; omega, fun _ => ⟨x, rfl, fun j p hj => ?_⟩⟩, by omega, ?_⟩
    · obtain ⟨hj1, hj2⟩ := List.getElem?_eq_some_iff.1 hj
      have hj3 : j < len := by omega
      have hp : p = Y j := by rw [← hj2]; simp
      subst hp
      obtain ⟨h1, _⟩ := hY j hj3
      obtain ⟨_, _, h2⟩ := World.cells?_some h1
      refine ⟨[.int .i64 (Y j).f0, .int .i64 (Y j).f1, .int .i64 (Y j).f2], rfl, k31_mk _ _, fun i u hu => ?_⟩
      have hi : i < 3 := (List.getElem?_eq_some_iff.1 hu).1
      have h3 := h2 i hi
      rw [hu, addr_add_add] at h3
      exact h3
    · intro y hy
      obtain ⟨i, hi, rfl⟩ := List.mem_map.1 hy
      exact (hY i (by simpa using hi)).2
theorem sizedk31 {H : Type} {enc : TypeId × Value → H} {W : World} {base : Nat} {spare : Nat → Bool} {held : Bool} {t : Nat} {a : Option Addr} {len cap : Nat} {d : DataW H} {ps : List MemPlace} {ts : List TypeId} {ds : List (DataW H)} {j : Nat}
    (hsz : (DataW.weightsEach Try.prog ts ds).all (· ≤ reachBytes) = true) (ht : ts[j]? = some t) (hd : ds[j]? = some d) (hu : Try.prog.underlying t = some (.slice 31)) (h : DataW.Trod enc Try.prog W base spare held t (.slice a len cap) d ps) : len * 24 ≤ 140737488351232 := by
  obtain ⟨fuel, hf⟩ := h
  rcases Go.Deep.open_slice hu hf with ⟨hcs, _⟩ | ⟨x, l, c, m, n, D, Pl, hcs, hb, hl, hm, hmm, hx, hel⟩
  · simp [Value.cells] at hcs
    obtain ⟨rfl, rfl, rfl⟩ := hcs
    simp
  · simp [Value.cells] at hcs
    obtain ⟨rfl, rfl, rfl⟩ := hcs
    obtain ⟨rfl, _⟩ := Prod.mk.inj hx
    have z := sized_slice hsz ht hd hu
    rw [show Try.prog.bytesOf 31 = 24 from by kernel_rfl, List.length_map, List.length_range] at z
    exact Nat.le_trans (Nat.mul_le_mul_right _ (Nat.le_add_right _ _)) z
/-- THE ONE PURE STATEMENT of horariumlaw11_BusyTells. -/
def horariumlaw11_BusyTells.Pure : Prop := ∀ (l0 : List (S28)) (l1 : List (S31)) (a2 : Int), l0.length * 40 ≤ 140737488351232 → (∀ x ∈ l0, WF28 x) → l1.length * 24 ≤ 140737488351232 → (∀ x ∈ l1, WF31 x) → (Lit.int .i64 a2).wf = true → ∃ k, horariumlaw11_BusyTells.f k l0 l1 a2 = some true
theorem horariumlaw11_BusyTells.walk (P : horariumlaw11_BusyTells.Pure) (A0 : Option Addr) (c0 : Nat) (l0 : List (S28)) (A1 : Option Addr) (c1 : Nat) (l1 : List (S31)) (a2 : Int) (w : World) (hr0 : Kd.C k28 w A0 l0.length l0) (hc0 : l0.length ≤ c0) (hr1 : Kd.C k31 w A1 l1.length l1) (hc1 : l1.length ≤ c1) (y0 : l0.length * 40 ≤ 140737488351232) (w0 : (∀ x ∈ l0, WF28 x)) (y1 : l1.length * 24 ≤ 140737488351232) (w1 : (∀ x ∈ l1, WF31 x)) (w2 : (Lit.int .i64 a2).wf = true) :
    Calls Try.prog 8 #[.slice A0 l0.length c0, .slice A1 l1.length c1, .int .i64 a2] w fun e w' => e = .returned (.bool true) ∧ Below w.heap.size w w' := by
  obtain ⟨k, h⟩ := P l0 l1 a2 y0 w0 y1 w1 w2
  refine (horariumlaw11_BusyTells.calls k A0 c0 l0 A1 c1 l1 a2 true w hr0 hc0 hr1 hc1 h).mono ?_
  rintro e w' ⟨rfl, hd⟩
  exact ⟨rfl, hd⟩

end Go.Proofs.Ythiepacmdlgajaa.PBusyTells
