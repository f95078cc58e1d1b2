-- Made by px.py (a program of this session, over the kit's printer) out of the translation. Not trusted: Lean checks it.
import Derived.Test.YthiepacmdlgajaaPQpaPathsx0
import Derived.Test.YthiepacmdlgajaaPQpaPathsx6
import Derived.Test.YthiepacmdlgajaaPQpaPathsx7
namespace Go.Proofs.Ythiepacmdlgajaa.PQpaPaths
open Go.RowKit Go.Proofs.YthiepacmdlgajaaW.PrintWords Go.Proofs.YthiepacmdlgajaaW.PrintLast Go.Proofs.YthiepacmdlgajaaW.PrintMore
attribute [local go_sem] max2_int min2_int max_two min_two max_three min_three max_four min_four   -- for this text's walks alone
set_option linter.unusedVariables false
set_option linter.unusedSimpArgs false

/-! ### horariumref11_Least: function 54 -/
mutual
def horariumref11_Least.j0 : Nat → List (S28) → Bool → Option (Int)
  | 0, _, _ => none
  | k + 1, x0, x14 => if x14 = true then (some 0) else (if 0 < (x0.length : Int) then (horariumref11_Least.l0 k x0 ((rd_T28 x0 0).f2) 0) else (none))
def horariumref11_Least.l0 : Nat → List (S28) → Int → Int → Option (Int)
  | 0, _, _, _ => none
  | k + 1, x0, x4, x5 => if x5 < (x0.length : Int) then (if 0 ≤ x5 then (if ((rd_T28 x0 x5).f2) < x4 then (horariumref11_Least.l0 k x0 ((rd_T28 x0 x5).f2) (wrap64 (x5 + 1))) else (horariumref11_Least.l0 k x0 x4 (wrap64 (x5 + 1)))) else (none)) else (some x4)
end
def horariumref11_Least.f (k : Nat) (l0 : List (S28)) : Option (Int) := (horariumref09_Row.f k l0).bind fun t186 => (if t186 = true then (horariumref11_Least.j0 k l0 ((l0.length : Int) == 0)) else (horariumref11_Least.j0 k l0 true))
theorem horariumref11_Least.mono_l : ∀ k, (∀ y0 y1, LeO (horariumref11_Least.j0 k y0 y1) (horariumref11_Least.j0 (k + 1) y0 y1)) ∧ (∀ y0 y1 y2, LeO (horariumref11_Least.l0 k y0 y1 y2) (horariumref11_Least.l0 (k + 1) y0 y1 y2))
  | 0 => ⟨fun _ _ r h => by simp [horariumref11_Least.j0] at h, fun _ _ _ r h => by simp [horariumref11_Least.l0] at h⟩
  | k + 1 => by
    obtain ⟨ih0, ih1⟩ := horariumref11_Least.mono_l k
    refine ⟨?_, ?_⟩
    · intro y0 y1
      unfold horariumref11_Least.j0
      repeat' first
      | (with_reducible exact ih0 _ _)
      | (with_reducible exact ih1 _ _ _)
      | (with_reducible exact horariumref09_Row.mono _ _)
      | (with_reducible exact LeO.refl _)
      | (with_reducible exact LeO.none _)
      | (with_reducible refine LeO.ite ?_ ?_)
      | (with_reducible refine LeO.bind ?_ (fun _ => ?_))
      | exact ih0 _ _
      | exact ih1 _ _ _
      | exact horariumref09_Row.mono _ _
      | exact LeO.none _
      | refine LeO.ite ?_ ?_
      | refine LeO.bind ?_ (fun _ => ?_)
    · intro y0 y1 y2
      unfold horariumref11_Least.l0
      repeat' first
      | (with_reducible exact ih0 _ _)
      | (with_reducible exact ih1 _ _ _)
      | (with_reducible exact horariumref09_Row.mono _ _)
      | (with_reducible exact LeO.refl _)
      | (with_reducible exact LeO.none _)
      | (with_reducible refine LeO.ite ?_ ?_)
      | (with_reducible refine LeO.bind ?_ (fun _ => ?_))
      | exact ih0 _ _
      | exact ih1 _ _ _
      | exact horariumref09_Row.mono _ _
      | exact LeO.none _
      | refine LeO.ite ?_ ?_
      | refine LeO.bind ?_ (fun _ => ?_)
theorem horariumref11_Least.mono : ∀ a0 k, LeO (horariumref11_Least.f k a0) (horariumref11_Least.f (k + 1) a0) := by
  intro a0 k
  obtain ⟨ih0, ih1⟩ := horariumref11_Least.mono_l k
  unfold horariumref11_Least.f
  repeat' first
      | (with_reducible exact ih0 _ _)
      | (with_reducible exact ih1 _ _ _)
      | (with_reducible exact horariumref09_Row.mono _ _)
      | (with_reducible exact LeO.refl _)
      | (with_reducible exact LeO.none _)
      | (with_reducible refine LeO.ite ?_ ?_)
      | (with_reducible refine LeO.bind ?_ (fun _ => ?_))
      | exact ih0 _ _
      | exact ih1 _ _ _
      | exact horariumref09_Row.mono _ _
      | exact LeO.none _
      | refine LeO.ite ?_ ?_
      | refine LeO.bind ?_ (fun _ => ?_)
set_option maxHeartbeats 8000000 in
set_option maxRecDepth 100000 in
theorem horariumref11_Least.calls (k : Nat) (A0 : Option Addr) (c0 : Nat) (l0 : List (S28)) (r : Int) (w : World) (hr0 : Kd.C k28 w A0 l0.length l0) (hc0 : l0.length ≤ c0) (h : horariumref11_Least.f k l0 = some r) :
    Calls Try.prog 54 #[.slice A0 l0.length c0] w fun e w' => e = .returned (.int .i64 r) ∧ Below w.heap.size w w' := by
  have HR0 := Aside0.mk hr0
  have HC0 := Aside0.mk hc0
  clear hr0 hc0
  have HB := Aside0.mk (Below.refl w.heap.size w)
  have H : ((horariumref09_Row.f k l0).bind fun t186 => (if t186 = true then (horariumref11_Least.j0 k l0 ((l0.length : Int) == 0)) else (horariumref11_Least.j0 k l0 true))) = some r := h
  clear h
  replace H := Option.bind_eq_some_iff.mp H
  obtain ⟨t186, A20, H⟩ := H
  replace H : (if t186 = true then (horariumref11_Least.j0 k l0 ((l0.length : Int) == 0)) else (horariumref11_Least.j0 k l0 true)) = some r := H
  have A2 := Aside0.mk A20
  clear A20
  have HC3 := Aside0.mk H
  clear H
  go_enter Try.func54, Try.ntmps54
  go_upto_region 2 with (first | ((with_reducible refine gate_callee (f := 57) rfl ?_); refine goesL_ (some 7) rfl rfl Try.func57 (by kernel_rfl) rfl #[.slice A0 l0.length c0] rfl (by (try simp only [List.map_toArray, List.map_cons, List.map_nil]); first | done | rfl | (simp only [List.length_drop, List.length_take]; rfl)) ?_; (with_reducible refine (horariumref09_Row.calls k _ _ l0 t186 _ ?side1 ?side2 A2.out).mono ?_); (case side1 => repeat (first | exact HR0.out | (with_reducible refine Kd.C_alloc ?_ _) | (with_reducible refine Kd.C_drewN ?_ _) | (with_reducible refine Kd.C_drew ?_))); (case side2 => exact HC0.out); rintro e w4 ⟨rfl, hb⟩; refine ⟨_, rfl, ?_⟩; have n0_ := Aside0.mk (below_step (by repeat (first | (with_reducible first | exact HB.out | apply below_alloc | apply pw_below_drewN | apply below_drew1) | exact HB.out)) hb); clear HB; have HB := n0_; clear n0_; (try clear hb); (try clear hb2); (try clear hk); (try clear hi)))
  (try simp only [Act.put, List.setIfInBounds_toArray, List.set_cons_zero, List.set_cons_succ])
  go_cut [14] (fun v14 wc => ∃ (kq : Nat) (x14_2 : Bool), v14 = .bool x14_2 ∧ Aside0 (horariumref11_Least.j0 kq l0 x14_2 = some r) ∧ Aside0 (kq ≤ k) ∧ Aside0 (Below w.heap.size w wc))
  case first =>
    have H := HC3.out
    clear HC3
    by_cases c5 : t186 = true
    · subst c5
      have H1 : (horariumref11_Least.j0 k l0 ((l0.length : Int) == 0)) = some r := by rw [if_pos rfl] at H; exact H
      clear H
      have H := H1
      clear H1
      have H' := Aside0.mk H
      clear H
      go_wp2
      go_meet
      case rel => exact ⟨_, (((l0.length : Int) == 0)), (by first | rfl | (simp; done) | (simp [*]; done)), H', ⟨by first | omega | exact Nat.le_refl _⟩, ⟨by repeat (first | (with_reducible first | exact HB.out | apply below_alloc | apply pw_below_drewN | apply below_drew1) | exact HB.out)⟩⟩
    · replace c5 := Bool.eq_false_iff.mpr c5
      subst c5
      have H1 : (horariumref11_Least.j0 k l0 true) = some r := by rw [if_neg (show ¬ (false = true) by decide)] at H; exact H
      clear H
      have H := H1
      clear H1
      have H' := Aside0.mk H
      clear H
      go_wp2
      go_meet
      case rel => exact ⟨_, (true), (by first | rfl | (simp; done) | (simp [*]; done)), H', ⟨by first | omega | exact Nat.le_refl _⟩, ⟨by repeat (first | (with_reducible first | exact HB.out | apply below_alloc | apply pw_below_drewN | apply below_drew1) | exact HB.out)⟩⟩
  case rest =>
    clear HC3
    try clear p2
    try clear c5
    obtain ⟨kq, x14_2, rfl, HA, HJ2, HB⟩ := hcut
    cases kq with
    | zero => exact absurd HA.out (by simp [horariumref11_Least.j0])
    | succ kj2 =>
      have H := HA.out
      clear HA
      simp only [horariumref11_Least.j0] at H
      by_cases c6 : x14_2 = true
      · subst c6
        have H1 : (some 0) = some r := by rw [if_pos rfl] at H; exact H
        clear H
        have H := H1
        clear H1
        obtain rfl := Option.some.inj H
        go_wp2
        go_ret
        exact ⟨by first | rfl | (simp [errW_none, errW_some] <;> rfl) | (simp [*, errW_none, errW_some] <;> rfl), by repeat (first | (with_reducible first | exact HB.out | apply below_alloc | apply pw_below_drewN | apply below_drew1) | exact HB.out)⟩
      · replace c6 := Bool.eq_false_iff.mpr c6
        subst c6
        have H1 : (if 0 < (l0.length : Int) then (horariumref11_Least.l0 kj2 l0 ((rd_T28 l0 0).f2) 0) else (none)) = some r := by rw [if_neg (show ¬ (false = true) by decide)] at H; exact H
        clear H
        have H := H1
        clear H1
        by_cases c7 : 0 < (l0.length : Int)
        · rw [if_pos c7] at H
          have c7b0 : decide (0 < (l0.length : Int)) = true := decide_eq_true c7
          have c7b1 : decide (0 < l0.length) = true := decide_eq_true (by omega)
          clear c7
          have H' := Aside0.mk H
          clear H
          have p187 : 0 ≤ (0 : Int) := (by omega)
          have q187 : 0 < (l0.length : Int) := of_decide_eq_true (by first | (with_reducible assumption) | assumption)
          obtain ⟨ad187, e187, hx187_0, hx187_1, hx187_2, hx187_3, hx187_4⟩ := at_T28 HR0.out 0 p187 q187
          cases e187
          have qi187 : (0 < l0.length) = True := eq_true (by omega)
          (try rw [show ((0 : Int)).toNat = 0 from rfl] at hx187_0)
          (try rw [show 0 * 5 = 0 from rfl] at hx187_0)
          (try rw [Addr.add_zero'] at hx187_0)
          (try rw [show ((0 : Int)).toNat = 0 from rfl] at hx187_1)
          (try rw [show 0 * 5 = 0 from rfl] at hx187_1)
          (try rw [Addr.add_zero'] at hx187_1)
          (try rw [show ((0 : Int)).toNat = 0 from rfl] at hx187_2)
          (try rw [show 0 * 5 = 0 from rfl] at hx187_2)
          (try rw [Addr.add_zero'] at hx187_2)
          (try rw [show ((0 : Int)).toNat = 0 from rfl] at hx187_3)
          (try rw [show 0 * 5 = 0 from rfl] at hx187_3)
          (try rw [Addr.add_zero'] at hx187_3)
          (try rw [show ((0 : Int)).toNat = 0 from rfl] at hx187_4)
          (try rw [show 0 * 5 = 0 from rfl] at hx187_4)
          (try rw [Addr.add_zero'] at hx187_4)
          replace hx187_0 := (HB.out.cell (World.block_lt_of_cell? w _ hx187_0)).trans hx187_0
          replace hx187_1 := (HB.out.cell (World.block_lt_of_cell? w _ hx187_1)).trans hx187_1
          replace hx187_2 := (HB.out.cell (World.block_lt_of_cell? w _ hx187_2)).trans hx187_2
          replace hx187_3 := (HB.out.cell (World.block_lt_of_cell? w _ hx187_3)).trans hx187_3
          replace hx187_4 := (HB.out.cell (World.block_lt_of_cell? w _ hx187_4)).trans hx187_4
          replace p187 := eq_true p187
          replace q187 := eq_true q187
          go_wp2
          go_loopg [4, 5] kj2 (fun kq v4 v5 w' => ∃ (x4_2 : Int) (x5_2 : Int), v4 = .int .i64 x4_2 ∧ v5 = .int .i64 x5_2 ∧ Aside0 (horariumref11_Least.l0 kq l0 x4_2 x5_2 = some r) ∧ Aside0 (kq ≤ kj2) ∧ Aside0 (Below w.heap.size w w'))
          case atStart => exact ⟨((rd_T28 l0 0).f2), (0), (by first | rfl | (simp; done) | (simp [*]; done)), (by first | rfl | (simp; done) | (simp [*]; done)), H', ⟨Nat.le_refl _⟩, ⟨by repeat (first | (with_reducible first | exact HB.out | apply below_alloc | apply pw_below_drewN | apply below_drew1) | exact HB.out)⟩⟩
          case round =>
            clear H'
            try clear p1
            try clear q1
            try clear hx1
            try clear qi1
            try clear p2
            try clear c5
            try clear c6
            try clear c7
            try clear c7b0
            try clear c7b1
            try clear hx187_0
            try clear hx187_1
            try clear hx187_2
            try clear hx187_3
            try clear hx187_4
            try clear p187
            try clear p2
            try clear q187
            obtain ⟨x4_2, x5_2, rfl, rfl, HA, HK2, HB⟩ := hrel
            cases gk with
            | zero => exact absurd HA.out (by simp [horariumref11_Least.l0])
            | succ k2 =>
              have H := HA.out
              clear HA
              simp only [horariumref11_Least.l0] at H
              by_cases c8 : x5_2 < (l0.length : Int)
              · rw [if_pos c8] at H
                have c8b0 : decide (x5_2 < (l0.length : Int)) = true := decide_eq_true c8
                clear c8
                by_cases c9 : 0 ≤ x5_2
                · rw [if_pos c9] at H
                  have c9b0 : decide (0 ≤ x5_2) = true := decide_eq_true c9
                  clear c9
                  by_cases c10 : ((rd_T28 l0 x5_2).f2) < x4_2
                  · rw [if_pos c10] at H
                    have c10b0 : decide (((rd_T28 l0 x5_2).f2) < x4_2) = true := decide_eq_true c10
                    clear c10
                    have H' := Aside0.mk H
                    clear H
                    have p188 : 0 ≤ (x5_2 : Int) := of_decide_eq_true (by first | (with_reducible assumption) | assumption)
                    have q188 : x5_2 < (l0.length : Int) := of_decide_eq_true (by first | (with_reducible assumption) | assumption)
                    obtain ⟨ad188, e188, hx188_0, hx188_1, hx188_2, hx188_3, hx188_4⟩ := at_T28 HR0.out x5_2 p188 q188
                    obtain rfl : ad187 = ad188 := (by injection e188)
                    replace hx188_0 := (HB.out.cell (World.block_lt_of_cell? w _ hx188_0)).trans hx188_0
                    replace hx188_1 := (HB.out.cell (World.block_lt_of_cell? w _ hx188_1)).trans hx188_1
                    replace hx188_2 := (HB.out.cell (World.block_lt_of_cell? w _ hx188_2)).trans hx188_2
                    replace hx188_3 := (HB.out.cell (World.block_lt_of_cell? w _ hx188_3)).trans hx188_3
                    replace hx188_4 := (HB.out.cell (World.block_lt_of_cell? w _ hx188_4)).trans hx188_4
                    replace p188 := eq_true p188
                    replace q188 := eq_true q188
                    have p189 : 0 ≤ (x5_2 : Int) := of_decide_eq_true (by first | (with_reducible assumption) | assumption)
                    have q189 : x5_2 < (l0.length : Int) := of_decide_eq_true (by first | (with_reducible assumption) | assumption)
                    obtain ⟨ad189, e189, hx189_0, hx189_1, hx189_2, hx189_3, hx189_4⟩ := at_T28 HR0.out x5_2 p189 q189
                    obtain rfl : ad187 = ad189 := (by injection e189)
                    replace hx189_0 := (HB.out.cell (World.block_lt_of_cell? w _ hx189_0)).trans hx189_0
                    replace hx189_1 := (HB.out.cell (World.block_lt_of_cell? w _ hx189_1)).trans hx189_1
                    replace hx189_2 := (HB.out.cell (World.block_lt_of_cell? w _ hx189_2)).trans hx189_2
                    replace hx189_3 := (HB.out.cell (World.block_lt_of_cell? w _ hx189_3)).trans hx189_3
                    replace hx189_4 := (HB.out.cell (World.block_lt_of_cell? w _ hx189_4)).trans hx189_4
                    replace p189 := eq_true p189
                    replace q189 := eq_true q189
                    go_wp2
                    go_roundg k2
                    case measure => have := HJ2.out; have := HK2.out; omega
                    case rel => exact ⟨((rd_T28 l0 x5_2).f2), (wrap64 (x5_2 + 1)), (by first | rfl | (simp; done) | (simp [*]; done)), (by first | rfl | (simp; done) | (simp [*]; done)), H', ⟨by have := HJ2.out; have := HK2.out; omega⟩, ⟨by repeat (first | (with_reducible first | exact HB.out | apply below_alloc | apply pw_below_drewN | apply below_drew1) | exact HB.out)⟩⟩
                  · rw [if_neg c10] at H
                    have c10b0 : decide (((rd_T28 l0 x5_2).f2) < x4_2) = false := decide_eq_false c10
                    clear c10
                    have H' := Aside0.mk H
                    clear H
                    have p188 : 0 ≤ (x5_2 : Int) := of_decide_eq_true (by first | (with_reducible assumption) | assumption)
                    have q188 : x5_2 < (l0.length : Int) := of_decide_eq_true (by first | (with_reducible assumption) | assumption)
                    obtain ⟨ad188, e188, hx188_0, hx188_1, hx188_2, hx188_3, hx188_4⟩ := at_T28 HR0.out x5_2 p188 q188
                    obtain rfl : ad187 = ad188 := (by injection e188)
                    replace hx188_0 := (HB.out.cell (World.block_lt_of_cell? w _ hx188_0)).trans hx188_0
                    replace hx188_1 := (HB.out.cell (World.block_lt_of_cell? w _ hx188_1)).trans hx188_1
                    replace hx188_2 := (HB.out.cell (World.block_lt_of_cell? w _ hx188_2)).trans hx188_2
                    replace hx188_3 := (HB.out.cell (World.block_lt_of_cell? w _ hx188_3)).trans hx188_3
                    replace hx188_4 := (HB.out.cell (World.block_lt_of_cell? w _ hx188_4)).trans hx188_4
                    replace p188 := eq_true p188
                    replace q188 := eq_true q188
                    go_wp2
                    go_roundg k2
                    case measure => have := HJ2.out; have := HK2.out; omega
                    case rel => exact ⟨(x4_2), (wrap64 (x5_2 + 1)), (by first | rfl | (simp; done) | (simp [*]; done)), (by first | rfl | (simp; done) | (simp [*]; done)), H', ⟨by have := HJ2.out; have := HK2.out; omega⟩, ⟨by repeat (first | (with_reducible first | exact HB.out | apply below_alloc | apply pw_below_drewN | apply below_drew1) | exact HB.out)⟩⟩
                · rw [if_neg c9] at H
                  exact absurd H (by simp)
              · rw [if_neg c8] at H
                have c8b0 : decide (x5_2 < (l0.length : Int)) = false := decide_eq_false c8
                clear c8
                obtain rfl := Option.some.inj H
                go_wp2
                go_ret
                exact ⟨by first | rfl | (simp [errW_none, errW_some] <;> rfl) | (simp [*, errW_none, errW_some] <;> rfl), by repeat (first | (with_reducible first | exact HB.out | apply below_alloc | apply pw_below_drewN | apply below_drew1) | exact HB.out)⟩
        · rw [if_neg c7] at H
          exact absurd H (by simp)

/-! ### horariumref10_Before: function 56 -/
mutual
def horariumref10_Before.j0 : Nat → List (S28) → Int → Bool → Option (Int × Bool)
  | 0, _, _, _ => none
  | k + 1, x0, x1, x20 => if x20 = true then (some (0, false)) else (horariumref10_Before.l0 k x0 x1 0 0)
def horariumref10_Before.l0 : Nat → List (S28) → Int → Int → Int → Option (Int × Bool)
  | 0, _, _, _, _ => none
  | k + 1, x0, x1, x8, x9 => if x9 < (x0.length : Int) then (if 0 ≤ x9 then (if ((rd_T28 x0 x9).f2) < x1 then (if ((rd_T28 x0 x9).f3) = 0 then (none) else (if (wrap64 (((rd_T28 x0 x9).f2) + (wrap64 (((rd_T28 x0 x9).f3) * (wrap64 (Int.tdiv (wrap64 ((wrap64 (x1 - 1)) - ((rd_T28 x0 x9).f2))) ((rd_T28 x0 x9).f3))))))) > x8 then (horariumref10_Before.l0 k x0 x1 (wrap64 (((rd_T28 x0 x9).f2) + (wrap64 (((rd_T28 x0 x9).f3) * (wrap64 (Int.tdiv (wrap64 ((wrap64 (x1 - 1)) - ((rd_T28 x0 x9).f2))) ((rd_T28 x0 x9).f3))))))) (wrap64 (x9 + 1))) else (horariumref10_Before.l0 k x0 x1 x8 (wrap64 (x9 + 1))))) else (horariumref10_Before.l0 k x0 x1 x8 (wrap64 (x9 + 1)))) else (none)) else (some (x8, decide (x8 > 0)))
end
def horariumref10_Before.f (k : Nat) (l0 : List (S28)) (a1 : Int) : Option (Int × Bool) := (horariumref09_Row.f k l0).bind fun t190 => ((horariumref10_time.f a1).bind fun t191 => (if t190 = true then (horariumref10_Before.j0 k l0 a1 (!t191)) else (horariumref10_Before.j0 k l0 a1 true)))
theorem horariumref10_Before.mono_l : ∀ k, (∀ y0 y1 y2, LeO (horariumref10_Before.j0 k y0 y1 y2) (horariumref10_Before.j0 (k + 1) y0 y1 y2)) ∧ (∀ y0 y1 y2 y3, LeO (horariumref10_Before.l0 k y0 y1 y2 y3) (horariumref10_Before.l0 (k + 1) y0 y1 y2 y3))
  | 0 => ⟨fun _ _ _ r h => by simp [horariumref10_Before.j0] at h, fun _ _ _ _ r h => by simp [horariumref10_Before.l0] at h⟩
  | k + 1 => by
    obtain ⟨ih0, ih1⟩ := horariumref10_Before.mono_l k
    refine ⟨?_, ?_⟩
    · intro y0 y1 y2
      unfold horariumref10_Before.j0
      repeat' first
      | (with_reducible exact ih0 _ _ _)
      | (with_reducible exact ih1 _ _ _ _)
      | (with_reducible exact horariumref09_Row.mono _ _)
      | (with_reducible exact LeO.refl _)
      | (with_reducible exact LeO.none _)
      | (with_reducible refine LeO.ite ?_ ?_)
      | (with_reducible refine LeO.bind ?_ (fun _ => ?_))
      | exact ih0 _ _ _
      | exact ih1 _ _ _ _
      | exact horariumref09_Row.mono _ _
      | exact LeO.none _
      | refine LeO.ite ?_ ?_
      | refine LeO.bind ?_ (fun _ => ?_)
    · intro y0 y1 y2 y3
      unfold horariumref10_Before.l0
      repeat' first
      | (with_reducible exact ih0 _ _ _)
      | (with_reducible exact ih1 _ _ _ _)
      | (with_reducible exact horariumref09_Row.mono _ _)
      | (with_reducible exact LeO.refl _)
      | (with_reducible exact LeO.none _)
      | (with_reducible refine LeO.ite ?_ ?_)
      | (with_reducible refine LeO.bind ?_ (fun _ => ?_))
      | exact ih0 _ _ _
      | exact ih1 _ _ _ _
      | exact horariumref09_Row.mono _ _
      | exact LeO.none _
      | refine LeO.ite ?_ ?_
      | refine LeO.bind ?_ (fun _ => ?_)
theorem horariumref10_Before.mono : ∀ a0 a1 k, LeO (horariumref10_Before.f k a0 a1) (horariumref10_Before.f (k + 1) a0 a1) := by
  intro a0 a1 k
  obtain ⟨ih0, ih1⟩ := horariumref10_Before.mono_l k
  unfold horariumref10_Before.f
  repeat' first
      | (with_reducible exact ih0 _ _ _)
      | (with_reducible exact ih1 _ _ _ _)
      | (with_reducible exact horariumref09_Row.mono _ _)
      | (with_reducible exact LeO.refl _)
      | (with_reducible exact LeO.none _)
      | (with_reducible refine LeO.ite ?_ ?_)
      | (with_reducible refine LeO.bind ?_ (fun _ => ?_))
      | exact ih0 _ _ _
      | exact ih1 _ _ _ _
      | exact horariumref09_Row.mono _ _
      | exact LeO.none _
      | refine LeO.ite ?_ ?_
      | refine LeO.bind ?_ (fun _ => ?_)
set_option maxHeartbeats 8000000 in
set_option maxRecDepth 100000 in
theorem horariumref10_Before.calls (k : Nat) (A0 : Option Addr) (c0 : Nat) (l0 : List (S28)) (a1 : Int) (r1 : Int) (r2 : Bool) (w : World) (hr0 : Kd.C k28 w A0 l0.length l0) (hc0 : l0.length ≤ c0) (h : horariumref10_Before.f k l0 a1 = some (r1, r2)) :
    Calls Try.prog 56 #[.slice A0 l0.length c0, .int .i64 a1] w fun e w' => e = .returned (.tuple #[.int .i64 r1, .bool r2]) ∧ Below w.heap.size w w' := by
  have HR0 := Aside0.mk hr0
  have HC0 := Aside0.mk hc0
  clear hr0 hc0
  have HB := Aside0.mk (Below.refl w.heap.size w)
  have H : ((horariumref09_Row.f k l0).bind fun t190 => ((horariumref10_time.f a1).bind fun t191 => (if t190 = true then (horariumref10_Before.j0 k l0 a1 (!t191)) else (horariumref10_Before.j0 k l0 a1 true)))) = some (r1, r2) := h
  clear h
  replace H := Option.bind_eq_some_iff.mp H
  obtain ⟨t190, A30, H⟩ := H
  replace H : ((horariumref10_time.f a1).bind fun t191 => (if t190 = true then (horariumref10_Before.j0 k l0 a1 (!t191)) else (horariumref10_Before.j0 k l0 a1 true))) = some (r1, r2) := H
  have A3 := Aside0.mk A30
  clear A30
  replace H := Option.bind_eq_some_iff.mp H
  obtain ⟨t191, A40, H⟩ := H
  replace H : (if t190 = true then (horariumref10_Before.j0 k l0 a1 (!t191)) else (horariumref10_Before.j0 k l0 a1 true)) = some (r1, r2) := H
  have A4 := Aside0.mk A40
  clear A40
  have HC5 := Aside0.mk H
  clear H
  go_enter Try.func56, Try.ntmps56
  go_upto_region 3 with (first | (go_at_call 57; (with_reducible refine (horariumref09_Row.calls k _ _ l0 t190 _ ?side1 ?side2 A3.out).mono ?_); (case side1 => repeat (first | exact HR0.out | (with_reducible refine Kd.C_alloc ?_ _) | (with_reducible refine Kd.C_drewN ?_ _) | (with_reducible refine Kd.C_drew ?_))); (case side2 => exact HC0.out); rintro e w6 ⟨rfl, hb⟩; have n0_ := Aside0.mk (below_step (by repeat (first | (with_reducible first | exact HB.out | apply below_alloc | apply pw_below_drewN | apply below_drew1) | exact HB.out)) hb); clear HB; have HB := n0_; clear n0_; (try clear hb); (try clear hb2); (try clear hk); (try clear hi)) | (go_at_call 45; (with_reducible refine (horariumref10_time.calls a1 t191 _ A4.out).mono ?_); rintro e w' ⟨rfl, ⟨nd, rfl⟩⟩; (try first | exact ⟨rfl, _, World.drewN_drewN _ _ _⟩ | exact ⟨rfl, _, Eq.trans (World.drewN_drewN _ _ _) (congrArg (World.drewN _) (Nat.add_assoc _ _ _))⟩)))
  repeat (go_quiet (first | (go_at_call 57; (with_reducible refine (horariumref09_Row.calls k _ _ l0 t190 _ ?side1 ?side2 A3.out).mono ?_); (case side1 => repeat (first | exact HR0.out | (with_reducible refine Kd.C_alloc ?_ _) | (with_reducible refine Kd.C_drewN ?_ _) | (with_reducible refine Kd.C_drew ?_))); (case side2 => exact HC0.out); rintro e w6 ⟨rfl, hb⟩; have n0_ := Aside0.mk (below_step (by repeat (first | (with_reducible first | exact HB.out | apply below_alloc | apply pw_below_drewN | apply below_drew1) | exact HB.out)) hb); clear HB; have HB := n0_; clear n0_; (try clear hb); (try clear hb2); (try clear hk); (try clear hi)) | (go_at_call 45; (with_reducible refine (horariumref10_time.calls a1 t191 _ A4.out).mono ?_); rintro e w' ⟨rfl, ⟨nd, rfl⟩⟩; (try first | exact ⟨rfl, _, World.drewN_drewN _ _ _⟩ | exact ⟨rfl, _, Eq.trans (World.drewN_drewN _ _ _) (congrArg (World.drewN _) (Nat.add_assoc _ _ _))⟩))); go_upto_region 3 with (first | (go_at_call 57; (with_reducible refine (horariumref09_Row.calls k _ _ l0 t190 _ ?side1 ?side2 A3.out).mono ?_); (case side1 => repeat (first | exact HR0.out | (with_reducible refine Kd.C_alloc ?_ _) | (with_reducible refine Kd.C_drewN ?_ _) | (with_reducible refine Kd.C_drew ?_))); (case side2 => exact HC0.out); rintro e w6 ⟨rfl, hb⟩; have n0_ := Aside0.mk (below_step (by repeat (first | (with_reducible first | exact HB.out | apply below_alloc | apply pw_below_drewN | apply below_drew1) | exact HB.out)) hb); clear HB; have HB := n0_; clear n0_; (try clear hb); (try clear hb2); (try clear hk); (try clear hi)) | (go_at_call 45; (with_reducible refine (horariumref10_time.calls a1 t191 _ A4.out).mono ?_); rintro e w' ⟨rfl, ⟨nd, rfl⟩⟩; (try first | exact ⟨rfl, _, World.drewN_drewN _ _ _⟩ | exact ⟨rfl, _, Eq.trans (World.drewN_drewN _ _ _) (congrArg (World.drewN _) (Nat.add_assoc _ _ _))⟩))))
  (try simp only [Act.put, List.setIfInBounds_toArray, List.set_cons_zero, List.set_cons_succ])
  go_cut [20] (fun v20 wc => ∃ (kq : Nat) (x20_4 : Bool), v20 = .bool x20_4 ∧ Aside0 (horariumref10_Before.j0 kq l0 a1 x20_4 = some (r1, r2)) ∧ Aside0 (kq ≤ k) ∧ Aside0 (Below w.heap.size w wc))
  case first =>
    have H := HC5.out
    clear HC5
    by_cases c7 : t190 = true
    · subst c7
      have H1 : (horariumref10_Before.j0 k l0 a1 (!t191)) = some (r1, r2) := by rw [if_pos rfl] at H; exact H
      clear H
      have H := H1
      clear H1
      have H' := Aside0.mk H
      clear H
      go_wp2
      repeat (go_quiet (fail); try go_wp2)
      go_meet
      case rel => exact ⟨_, (!t191), (by first | rfl | (simp; done) | (simp [*]; done)), H', ⟨by first | omega | exact Nat.le_refl _⟩, ⟨by repeat (first | (with_reducible first | exact HB.out | apply below_alloc | apply pw_below_drewN | apply below_drew1) | exact HB.out)⟩⟩
    · replace c7 := Bool.eq_false_iff.mpr c7
      subst c7
      have H1 : (horariumref10_Before.j0 k l0 a1 true) = some (r1, r2) := by rw [if_neg (show ¬ (false = true) by decide)] at H; exact H
      clear H
      have H := H1
      clear H1
      have H' := Aside0.mk H
      clear H
      go_wp2
      repeat (go_quiet (fail); try go_wp2)
      go_meet
      case rel => exact ⟨_, (true), (by first | rfl | (simp; done) | (simp [*]; done)), H', ⟨by first | omega | exact Nat.le_refl _⟩, ⟨by repeat (first | (with_reducible first | exact HB.out | apply below_alloc | apply pw_below_drewN | apply below_drew1) | exact HB.out)⟩⟩
  case rest =>
    clear HC5
    try clear p2
    try clear c5
    try clear c7
    obtain ⟨kq, x20_4, rfl, HA, HJ4, HB⟩ := hcut
    cases kq with
    | zero => exact absurd HA.out (by simp [horariumref10_Before.j0])
    | succ kj4 =>
      have H := HA.out
      clear HA
      simp only [horariumref10_Before.j0] at H
      by_cases c8 : x20_4 = true
      · subst c8
        have H1 : (some (0, false)) = some (r1, r2) := by rw [if_pos rfl] at H; exact H
        clear H
        have H := H1
        clear H1
        simp only [Option.some.injEq, Prod.mk.injEq] at H
        obtain ⟨rfl, rfl⟩ := H
        go_wp2
        repeat (go_quiet (fail); try go_wp2)
        go_ret2
        exact ⟨by first | rfl | (simp [errW_none, errW_some] <;> rfl) | (simp [*, errW_none, errW_some] <;> rfl), by repeat (first | (with_reducible first | exact HB.out | apply below_alloc | apply pw_below_drewN | apply below_drew1) | exact HB.out)⟩
      · replace c8 := Bool.eq_false_iff.mpr c8
        subst c8
        have H1 : (horariumref10_Before.l0 kj4 l0 a1 0 0) = some (r1, r2) := by rw [if_neg (show ¬ (false = true) by decide)] at H; exact H
        clear H
        have H := H1
        clear H1
        have H' := Aside0.mk H
        clear H
        go_wp2
        repeat (go_quiet (fail); try go_wp2)
        go_loopg [8, 9] kj4 (fun kq v8 v9 w' => ∃ (x8_2 : Int) (x9_2 : Int), v8 = .int .i64 x8_2 ∧ v9 = .int .i64 x9_2 ∧ Aside0 (horariumref10_Before.l0 kq l0 a1 x8_2 x9_2 = some (r1, r2)) ∧ Aside0 (kq ≤ kj4) ∧ Aside0 (Below w.heap.size w w'))
        case atStart => exact ⟨(0), (0), (by first | rfl | (simp; done) | (simp [*]; done)), (by first | rfl | (simp; done) | (simp [*]; done)), H', ⟨Nat.le_refl _⟩, ⟨by repeat (first | (with_reducible first | exact HB.out | apply below_alloc | apply pw_below_drewN | apply below_drew1) | exact HB.out)⟩⟩
        case round =>
          clear H'
          try clear p2
          try clear c5
          try clear c7
          try clear c8
          try clear p2
          obtain ⟨x8_2, x9_2, rfl, rfl, HA, HK2, HB⟩ := hrel
          cases gk with
          | zero => exact absurd HA.out (by simp [horariumref10_Before.l0])
          | succ k2 =>
            have H := HA.out
            clear HA
            simp only [horariumref10_Before.l0] at H
            by_cases c9 : x9_2 < (l0.length : Int)
            · rw [if_pos c9] at H
              have c9b0 : decide (x9_2 < (l0.length : Int)) = true := decide_eq_true c9
              clear c9
              by_cases c10 : 0 ≤ x9_2
              · rw [if_pos c10] at H
                have c10b0 : decide (0 ≤ x9_2) = true := decide_eq_true c10
                clear c10
                by_cases c11 : ((rd_T28 l0 x9_2).f2) < a1
                · rw [if_pos c11] at H
                  have c11b0 : decide (((rd_T28 l0 x9_2).f2) < a1) = true := decide_eq_true c11
                  clear c11
                  by_cases c12 : ((rd_T28 l0 x9_2).f3) = 0
                  · rw [if_pos c12] at H
                    exact absurd H (by simp)
                  · rw [if_neg c12] at H
                    have c12b0 : (((rd_T28 l0 x9_2).f3) == 0) = false := beq_eq_false_iff_ne.mpr c12
                    have c12b1 : (((rd_T28 l0 x9_2).f3) != 0) = true := bne_iff_ne.mpr c12
                    by_cases c13 : (wrap64 (((rd_T28 l0 x9_2).f2) + (wrap64 (((rd_T28 l0 x9_2).f3) * (wrap64 (Int.tdiv (wrap64 ((wrap64 (a1 - 1)) - ((rd_T28 l0 x9_2).f2))) ((rd_T28 l0 x9_2).f3))))))) > x8_2
                    · rw [if_pos c13] at H
                      have c13b0 : decide (x8_2 < (wrap64 (((rd_T28 l0 x9_2).f2) + (wrap64 (((rd_T28 l0 x9_2).f3) * (wrap64 (Int.tdiv (wrap64 ((wrap64 (a1 - 1)) - ((rd_T28 l0 x9_2).f2))) ((rd_T28 l0 x9_2).f3)))))))) = true := decide_eq_true c13
                      (try (have c13b1 : decide (x8_2 < (IntKind.i64.wrap (((rd_T28 l0 x9_2).f2) + (IntKind.i64.wrap (((rd_T28 l0 x9_2).f3) * (IntKind.i64.wrap (Int.tdiv (wrap64 ((wrap64 (a1 - 1)) - ((rd_T28 l0 x9_2).f2))) ((rd_T28 l0 x9_2).f3)))))))) = true := by first | (simp only [i64_w]; exact (show decide (x8_2 < (wrap64 (((rd_T28 l0 x9_2).f2) + (wrap64 (((rd_T28 l0 x9_2).f3) * (wrap64 (Int.tdiv (wrap64 ((wrap64 (a1 - 1)) - ((rd_T28 l0 x9_2).f2))) ((rd_T28 l0 x9_2).f3)))))))) = true from decide_eq_true c13)) | (rw [i64_w, i64_w]; exact (show decide (x8_2 < (wrap64 (((rd_T28 l0 x9_2).f2) + (wrap64 (((rd_T28 l0 x9_2).f3) * (wrap64 (Int.tdiv (wrap64 ((wrap64 (a1 - 1)) - ((rd_T28 l0 x9_2).f2))) ((rd_T28 l0 x9_2).f3)))))))) = true from decide_eq_true c13))))
                      clear c13
                      have H' := Aside0.mk H
                      clear H
                      have p192 : 0 ≤ (x9_2 : Int) := of_decide_eq_true (by first | (with_reducible assumption) | assumption)
                      have q192 : x9_2 < (l0.length : Int) := of_decide_eq_true (by first | (with_reducible assumption) | assumption)
                      obtain ⟨ad192, e192, hx192_0, hx192_1, hx192_2, hx192_3, hx192_4⟩ := at_T28 HR0.out x9_2 p192 q192
                      cases e192
                      replace hx192_0 := (HB.out.cell (World.block_lt_of_cell? w _ hx192_0)).trans hx192_0
                      replace hx192_1 := (HB.out.cell (World.block_lt_of_cell? w _ hx192_1)).trans hx192_1
                      replace hx192_2 := (HB.out.cell (World.block_lt_of_cell? w _ hx192_2)).trans hx192_2
                      replace hx192_3 := (HB.out.cell (World.block_lt_of_cell? w _ hx192_3)).trans hx192_3
                      replace hx192_4 := (HB.out.cell (World.block_lt_of_cell? w _ hx192_4)).trans hx192_4
                      replace p192 := eq_true p192
                      replace q192 := eq_true q192
                      have p193 : 0 ≤ (x9_2 : Int) := of_decide_eq_true (by first | (with_reducible assumption) | assumption)
                      have q193 : x9_2 < (l0.length : Int) := of_decide_eq_true (by first | (with_reducible assumption) | assumption)
                      obtain ⟨ad193, e193, hx193_0, hx193_1, hx193_2, hx193_3, hx193_4⟩ := at_T28 HR0.out x9_2 p193 q193
                      obtain rfl : ad192 = ad193 := (by injection e193)
                      replace hx193_0 := (HB.out.cell (World.block_lt_of_cell? w _ hx193_0)).trans hx193_0
                      replace hx193_1 := (HB.out.cell (World.block_lt_of_cell? w _ hx193_1)).trans hx193_1
                      replace hx193_2 := (HB.out.cell (World.block_lt_of_cell? w _ hx193_2)).trans hx193_2
                      replace hx193_3 := (HB.out.cell (World.block_lt_of_cell? w _ hx193_3)).trans hx193_3
                      replace hx193_4 := (HB.out.cell (World.block_lt_of_cell? w _ hx193_4)).trans hx193_4
                      replace p193 := eq_true p193
                      replace q193 := eq_true q193
                      have p194 : 0 ≤ (x9_2 : Int) := of_decide_eq_true (by first | (with_reducible assumption) | assumption)
                      have q194 : x9_2 < (l0.length : Int) := of_decide_eq_true (by first | (with_reducible assumption) | assumption)
                      obtain ⟨ad194, e194, hx194_0, hx194_1, hx194_2, hx194_3, hx194_4⟩ := at_T28 HR0.out x9_2 p194 q194
                      obtain rfl : ad192 = ad194 := (by injection e194)
                      replace hx194_0 := (HB.out.cell (World.block_lt_of_cell? w _ hx194_0)).trans hx194_0
                      replace hx194_1 := (HB.out.cell (World.block_lt_of_cell? w _ hx194_1)).trans hx194_1
                      replace hx194_2 := (HB.out.cell (World.block_lt_of_cell? w _ hx194_2)).trans hx194_2
                      replace hx194_3 := (HB.out.cell (World.block_lt_of_cell? w _ hx194_3)).trans hx194_3
                      replace hx194_4 := (HB.out.cell (World.block_lt_of_cell? w _ hx194_4)).trans hx194_4
                      replace p194 := eq_true p194
                      replace q194 := eq_true q194
                      have p195 : 0 ≤ (x9_2 : Int) := of_decide_eq_true (by first | (with_reducible assumption) | assumption)
                      have q195 : x9_2 < (l0.length : Int) := of_decide_eq_true (by first | (with_reducible assumption) | assumption)
                      obtain ⟨ad195, e195, hx195_0, hx195_1, hx195_2, hx195_3, hx195_4⟩ := at_T28 HR0.out x9_2 p195 q195
                      obtain rfl : ad192 = ad195 := (by injection e195)
                      replace hx195_0 := (HB.out.cell (World.block_lt_of_cell? w _ hx195_0)).trans hx195_0
                      replace hx195_1 := (HB.out.cell (World.block_lt_of_cell? w _ hx195_1)).trans hx195_1
                      replace hx195_2 := (HB.out.cell (World.block_lt_of_cell? w _ hx195_2)).trans hx195_2
                      replace hx195_3 := (HB.out.cell (World.block_lt_of_cell? w _ hx195_3)).trans hx195_3
                      replace hx195_4 := (HB.out.cell (World.block_lt_of_cell? w _ hx195_4)).trans hx195_4
                      replace p195 := eq_true p195
                      replace q195 := eq_true q195
                      have p196 : 0 ≤ (x9_2 : Int) := of_decide_eq_true (by first | (with_reducible assumption) | assumption)
                      have q196 : x9_2 < (l0.length : Int) := of_decide_eq_true (by first | (with_reducible assumption) | assumption)
                      obtain ⟨ad196, e196, hx196_0, hx196_1, hx196_2, hx196_3, hx196_4⟩ := at_T28 HR0.out x9_2 p196 q196
                      obtain rfl : ad192 = ad196 := (by injection e196)
                      replace hx196_0 := (HB.out.cell (World.block_lt_of_cell? w _ hx196_0)).trans hx196_0
                      replace hx196_1 := (HB.out.cell (World.block_lt_of_cell? w _ hx196_1)).trans hx196_1
                      replace hx196_2 := (HB.out.cell (World.block_lt_of_cell? w _ hx196_2)).trans hx196_2
                      replace hx196_3 := (HB.out.cell (World.block_lt_of_cell? w _ hx196_3)).trans hx196_3
                      replace hx196_4 := (HB.out.cell (World.block_lt_of_cell? w _ hx196_4)).trans hx196_4
                      replace p196 := eq_true p196
                      replace q196 := eq_true q196
                      go_wp2
                      repeat (go_quiet (fail); try go_wp2)
                      go_roundg k2
                      case measure => have := HJ4.out; have := HK2.out; omega
                      case rel => exact ⟨(wrap64 (((rd_T28 l0 x9_2).f2) + (wrap64 (((rd_T28 l0 x9_2).f3) * (wrap64 (Int.tdiv (wrap64 ((wrap64 (a1 - 1)) - ((rd_T28 l0 x9_2).f2))) ((rd_T28 l0 x9_2).f3))))))), (wrap64 (x9_2 + 1)), (by first | rfl | (simp; done) | (simp only [i64_w]; done) | (simp [*]; done)), (by first | rfl | (simp; done) | (simp [*]; done)), H', ⟨by have := HJ4.out; have := HK2.out; omega⟩, ⟨by repeat (first | (with_reducible first | exact HB.out | apply below_alloc | apply pw_below_drewN | apply below_drew1) | exact HB.out)⟩⟩
                    · rw [if_neg c13] at H
                      have c13b0 : decide (x8_2 < (wrap64 (((rd_T28 l0 x9_2).f2) + (wrap64 (((rd_T28 l0 x9_2).f3) * (wrap64 (Int.tdiv (wrap64 ((wrap64 (a1 - 1)) - ((rd_T28 l0 x9_2).f2))) ((rd_T28 l0 x9_2).f3)))))))) = false := decide_eq_false c13
                      (try (have c13b1 : decide (x8_2 < (IntKind.i64.wrap (((rd_T28 l0 x9_2).f2) + (IntKind.i64.wrap (((rd_T28 l0 x9_2).f3) * (IntKind.i64.wrap (Int.tdiv (wrap64 ((wrap64 (a1 - 1)) - ((rd_T28 l0 x9_2).f2))) ((rd_T28 l0 x9_2).f3)))))))) = false := by first | (simp only [i64_w]; exact (show decide (x8_2 < (wrap64 (((rd_T28 l0 x9_2).f2) + (wrap64 (((rd_T28 l0 x9_2).f3) * (wrap64 (Int.tdiv (wrap64 ((wrap64 (a1 - 1)) - ((rd_T28 l0 x9_2).f2))) ((rd_T28 l0 x9_2).f3)))))))) = false from decide_eq_false c13)) | (rw [i64_w, i64_w]; exact (show decide (x8_2 < (wrap64 (((rd_T28 l0 x9_2).f2) + (wrap64 (((rd_T28 l0 x9_2).f3) * (wrap64 (Int.tdiv (wrap64 ((wrap64 (a1 - 1)) - ((rd_T28 l0 x9_2).f2))) ((rd_T28 l0 x9_2).f3)))))))) = false from decide_eq_false c13))))
                      clear c13
                      have H' := Aside0.mk H
                      clear H
                      have p192 : 0 ≤ (x9_2 : Int) := of_decide_eq_true (by first | (with_reducible assumption) | assumption)
                      have q192 : x9_2 < (l0.length : Int) := of_decide_eq_true (by first | (with_reducible assumption) | assumption)
                      obtain ⟨ad192, e192, hx192_0, hx192_1, hx192_2, hx192_3, hx192_4⟩ := at_T28 HR0.out x9_2 p192 q192
                      cases e192
                      replace hx192_0 := (HB.out.cell (World.block_lt_of_cell? w _ hx192_0)).trans hx192_0
                      replace hx192_1 := (HB.out.cell (World.block_lt_of_cell? w _ hx192_1)).trans hx192_1
                      replace hx192_2 := (HB.out.cell (World.block_lt_of_cell? w _ hx192_2)).trans hx192_2
                      replace hx192_3 := (HB.out.cell (World.block_lt_of_cell? w _ hx192_3)).trans hx192_3
                      replace hx192_4 := (HB.out.cell (World.block_lt_of_cell? w _ hx192_4)).trans hx192_4
                      replace p192 := eq_true p192
                      replace q192 := eq_true q192
                      have p193 : 0 ≤ (x9_2 : Int) := of_decide_eq_true (by first | (with_reducible assumption) | assumption)
                      have q193 : x9_2 < (l0.length : Int) := of_decide_eq_true (by first | (with_reducible assumption) | assumption)
                      obtain ⟨ad193, e193, hx193_0, hx193_1, hx193_2, hx193_3, hx193_4⟩ := at_T28 HR0.out x9_2 p193 q193
                      obtain rfl : ad192 = ad193 := (by injection e193)
                      replace hx193_0 := (HB.out.cell (World.block_lt_of_cell? w _ hx193_0)).trans hx193_0
                      replace hx193_1 := (HB.out.cell (World.block_lt_of_cell? w _ hx193_1)).trans hx193_1
                      replace hx193_2 := (HB.out.cell (World.block_lt_of_cell? w _ hx193_2)).trans hx193_2
                      replace hx193_3 := (HB.out.cell (World.block_lt_of_cell? w _ hx193_3)).trans hx193_3
                      replace hx193_4 := (HB.out.cell (World.block_lt_of_cell? w _ hx193_4)).trans hx193_4
                      replace p193 := eq_true p193
                      replace q193 := eq_true q193
                      have p194 : 0 ≤ (x9_2 : Int) := of_decide_eq_true (by first | (with_reducible assumption) | assumption)
                      have q194 : x9_2 < (l0.length : Int) := of_decide_eq_true (by first | (with_reducible assumption) | assumption)
                      obtain ⟨ad194, e194, hx194_0, hx194_1, hx194_2, hx194_3, hx194_4⟩ := at_T28 HR0.out x9_2 p194 q194
                      obtain rfl : ad192 = ad194 := (by injection e194)
                      replace hx194_0 := (HB.out.cell (World.block_lt_of_cell? w _ hx194_0)).trans hx194_0
                      replace hx194_1 := (HB.out.cell (World.block_lt_of_cell? w _ hx194_1)).trans hx194_1
                      replace hx194_2 := (HB.out.cell (World.block_lt_of_cell? w _ hx194_2)).trans hx194_2
                      replace hx194_3 := (HB.out.cell (World.block_lt_of_cell? w _ hx194_3)).trans hx194_3
                      replace hx194_4 := (HB.out.cell (World.block_lt_of_cell? w _ hx194_4)).trans hx194_4
                      replace p194 := eq_true p194
                      replace q194 := eq_true q194
                      have p195 : 0 ≤ (x9_2 : Int) := of_decide_eq_true (by first | (with_reducible assumption) | assumption)
                      have q195 : x9_2 < (l0.length : Int) := of_decide_eq_true (by first | (with_reducible assumption) | assumption)
                      obtain ⟨ad195, e195, hx195_0, hx195_1, hx195_2, hx195_3, hx195_4⟩ := at_T28 HR0.out x9_2 p195 q195
                      obtain rfl : ad192 = ad195 := (by injection e195)
                      replace hx195_0 := (HB.out.cell (World.block_lt_of_cell? w _ hx195_0)).trans hx195_0
                      replace hx195_1 := (HB.out.cell (World.block_lt_of_cell? w _ hx195_1)).trans hx195_1
                      replace hx195_2 := (HB.out.cell (World.block_lt_of_cell? w _ hx195_2)).trans hx195_2
                      replace hx195_3 := (HB.out.cell (World.block_lt_of_cell? w _ hx195_3)).trans hx195_3
                      replace hx195_4 := (HB.out.cell (World.block_lt_of_cell? w _ hx195_4)).trans hx195_4
                      replace p195 := eq_true p195
                      replace q195 := eq_true q195
                      have p196 : 0 ≤ (x9_2 : Int) := of_decide_eq_true (by first | (with_reducible assumption) | assumption)
                      have q196 : x9_2 < (l0.length : Int) := of_decide_eq_true (by first | (with_reducible assumption) | assumption)
                      obtain ⟨ad196, e196, hx196_0, hx196_1, hx196_2, hx196_3, hx196_4⟩ := at_T28 HR0.out x9_2 p196 q196
                      obtain rfl : ad192 = ad196 := (by injection e196)
                      replace hx196_0 := (HB.out.cell (World.block_lt_of_cell? w _ hx196_0)).trans hx196_0
                      replace hx196_1 := (HB.out.cell (World.block_lt_of_cell? w _ hx196_1)).trans hx196_1
                      replace hx196_2 := (HB.out.cell (World.block_lt_of_cell? w _ hx196_2)).trans hx196_2
                      replace hx196_3 := (HB.out.cell (World.block_lt_of_cell? w _ hx196_3)).trans hx196_3
                      replace hx196_4 := (HB.out.cell (World.block_lt_of_cell? w _ hx196_4)).trans hx196_4
                      replace p196 := eq_true p196
                      replace q196 := eq_true q196
                      go_wp2
                      repeat (go_quiet (fail); try go_wp2)
                      go_roundg k2
                      case measure => have := HJ4.out; have := HK2.out; omega
                      case rel => exact ⟨(x8_2), (wrap64 (x9_2 + 1)), (by first | rfl | (simp; done) | (simp [*]; done)), (by first | rfl | (simp; done) | (simp [*]; done)), H', ⟨by have := HJ4.out; have := HK2.out; omega⟩, ⟨by repeat (first | (with_reducible first | exact HB.out | apply below_alloc | apply pw_below_drewN | apply below_drew1) | exact HB.out)⟩⟩
                · rw [if_neg c11] at H
                  have c11b0 : decide (((rd_T28 l0 x9_2).f2) < a1) = false := decide_eq_false c11
                  clear c11
                  have H' := Aside0.mk H
                  clear H
                  have p192 : 0 ≤ (x9_2 : Int) := of_decide_eq_true (by first | (with_reducible assumption) | assumption)
                  have q192 : x9_2 < (l0.length : Int) := of_decide_eq_true (by first | (with_reducible assumption) | assumption)
                  obtain ⟨ad192, e192, hx192_0, hx192_1, hx192_2, hx192_3, hx192_4⟩ := at_T28 HR0.out x9_2 p192 q192
                  cases e192
                  replace hx192_0 := (HB.out.cell (World.block_lt_of_cell? w _ hx192_0)).trans hx192_0
                  replace hx192_1 := (HB.out.cell (World.block_lt_of_cell? w _ hx192_1)).trans hx192_1
                  replace hx192_2 := (HB.out.cell (World.block_lt_of_cell? w _ hx192_2)).trans hx192_2
                  replace hx192_3 := (HB.out.cell (World.block_lt_of_cell? w _ hx192_3)).trans hx192_3
                  replace hx192_4 := (HB.out.cell (World.block_lt_of_cell? w _ hx192_4)).trans hx192_4
                  replace p192 := eq_true p192
                  replace q192 := eq_true q192
                  go_wp2
                  repeat (go_quiet (fail); try go_wp2)
                  go_roundg k2
                  case measure => have := HJ4.out; have := HK2.out; omega
                  case rel => exact ⟨(x8_2), (wrap64 (x9_2 + 1)), (by first | rfl | (simp; done) | (simp [*]; done)), (by first | rfl | (simp; done) | (simp [*]; done)), H', ⟨by have := HJ4.out; have := HK2.out; omega⟩, ⟨by repeat (first | (with_reducible first | exact HB.out | apply below_alloc | apply pw_below_drewN | apply below_drew1) | exact HB.out)⟩⟩
              · rw [if_neg c10] at H
                exact absurd H (by simp)
            · rw [if_neg c9] at H
              have c9b0 : decide (x9_2 < (l0.length : Int)) = false := decide_eq_false c9
              clear c9
              simp only [Option.some.injEq, Prod.mk.injEq] at H
              obtain ⟨rfl, rfl⟩ := H
              go_wp2
              repeat (go_quiet (fail); try go_wp2)
              go_ret2
              exact ⟨by first | rfl | (simp [errW_none, errW_some] <;> rfl) | (simp [*, errW_none, errW_some] <;> rfl), by repeat (first | (with_reducible first | exact HB.out | apply below_alloc | apply pw_below_drewN | apply below_drew1) | exact HB.out)⟩

/-! ### horariumref12_Path: function 33 -/
mutual
def horariumref12_Path.l0 : Nat → List (S28) → Int → Int → Bool → List Int → Option (List Int)
  | 0, _, _, _, _, _ => none
  | k + 1, x0, x5, x6, x7, x8 => if x7 = true then (if x8.length < 17592186044416 then ((some (x8 ++ [x6] : List Int)).bind fun y202 => ((horariumref10_Of.f k x0 x6).bind fun t205 => (if t205 > x6 then (horariumref12_Path.j1 k x0 x5 x6 x7 y202 t205 true) else (horariumref12_Path.j1 k x0 x5 x6 x7 y202 t205 (decide (t205 ≤ x5)))))) else (none)) else (some x8)
def horariumref12_Path.j1 : Nat → List (S28) → Int → Int → Bool → List Int → Int → Bool → Option (List Int)
  | 0, _, _, _, _, _, _, _ => none
  | k + 1, x0, x5, x6, x7, x8, x9, x40 => if x40 = true then (some x8) else (if x9 < x6 then (horariumref12_Path.l0 k x0 x5 x9 x7 x8) else ((horariumref10_Before.f k x0 x6).bind fun bt206 => (horariumref12_Path.l0 k x0 x5 bt206.1 bt206.2 x8)))
end
def horariumref12_Path.f (k : Nat) (l0 : List (S28)) : Option (List Int) := (horariumref11_Length.f k l0).bind fun bt197 => (if bt197.2 = 0 then ((horariumref11_Least.f k l0).bind fun t199 => ((horariumref10_Before.f k l0 bt197.1).bind fun bt200 => (horariumref12_Path.l0 k l0 t199 bt200.1 bt200.2 ([] : List Int)))) else (some ([] : List Int)))
theorem horariumref12_Path.mono_l : ∀ k, (∀ y0 y1 y2 y3 y4, LeO (horariumref12_Path.l0 k y0 y1 y2 y3 y4) (horariumref12_Path.l0 (k + 1) y0 y1 y2 y3 y4)) ∧ (∀ y0 y1 y2 y3 y4 y5 y6, LeO (horariumref12_Path.j1 k y0 y1 y2 y3 y4 y5 y6) (horariumref12_Path.j1 (k + 1) y0 y1 y2 y3 y4 y5 y6))
  | 0 => ⟨fun _ _ _ _ _ r h => by simp [horariumref12_Path.l0] at h, fun _ _ _ _ _ _ _ r h => by simp [horariumref12_Path.j1] at h⟩
  | k + 1 => by
    obtain ⟨ih0, ih1⟩ := horariumref12_Path.mono_l k
    refine ⟨?_, ?_⟩
    · intro y0 y1 y2 y3 y4
      unfold horariumref12_Path.l0
      repeat' first
      | (with_reducible exact ih0 _ _ _ _ _)
      | (with_reducible exact ih1 _ _ _ _ _ _ _)
      | (with_reducible exact horariumref10_Before.mono _ _ _)
      | (with_reducible exact horariumref10_Of.mono _ _ _)
      | (with_reducible exact horariumref11_Least.mono _ _)
      | (with_reducible exact horariumref11_Length.mono _ _)
      | (with_reducible exact LeO.refl _)
      | (with_reducible exact LeO.none _)
      | (with_reducible refine LeO.ite ?_ ?_)
      | (with_reducible refine LeO.bind ?_ (fun _ => ?_))
      | exact ih0 _ _ _ _ _
      | exact ih1 _ _ _ _ _ _ _
      | exact horariumref10_Before.mono _ _ _
      | exact horariumref10_Of.mono _ _ _
      | exact horariumref11_Least.mono _ _
      | exact horariumref11_Length.mono _ _
      | exact LeO.none _
      | refine LeO.ite ?_ ?_
      | refine LeO.bind ?_ (fun _ => ?_)
    · intro y0 y1 y2 y3 y4 y5 y6
      unfold horariumref12_Path.j1
      repeat' first
      | (with_reducible exact ih0 _ _ _ _ _)
      | (with_reducible exact ih1 _ _ _ _ _ _ _)
      | (with_reducible exact horariumref10_Before.mono _ _ _)
      | (with_reducible exact horariumref10_Of.mono _ _ _)
      | (with_reducible exact horariumref11_Least.mono _ _)
      | (with_reducible exact horariumref11_Length.mono _ _)
      | (with_reducible exact LeO.refl _)
      | (with_reducible exact LeO.none _)
      | (with_reducible refine LeO.ite ?_ ?_)
      | (with_reducible refine LeO.bind ?_ (fun _ => ?_))
      | exact ih0 _ _ _ _ _
      | exact ih1 _ _ _ _ _ _ _
      | exact horariumref10_Before.mono _ _ _
      | exact horariumref10_Of.mono _ _ _
      | exact horariumref11_Least.mono _ _
      | exact horariumref11_Length.mono _ _
      | exact LeO.none _
      | refine LeO.ite ?_ ?_
      | refine LeO.bind ?_ (fun _ => ?_)
theorem horariumref12_Path.mono : ∀ a0 k, LeO (horariumref12_Path.f k a0) (horariumref12_Path.f (k + 1) a0) := by
  intro a0 k
  obtain ⟨ih0, ih1⟩ := horariumref12_Path.mono_l k
  unfold horariumref12_Path.f
  repeat' first
      | (with_reducible exact ih0 _ _ _ _ _)
      | (with_reducible exact ih1 _ _ _ _ _ _ _)
      | (with_reducible exact horariumref10_Before.mono _ _ _)
      | (with_reducible exact horariumref10_Of.mono _ _ _)
      | (with_reducible exact horariumref11_Least.mono _ _)
      | (with_reducible exact horariumref11_Length.mono _ _)
      | (with_reducible exact LeO.refl _)
      | (with_reducible exact LeO.none _)
      | (with_reducible refine LeO.ite ?_ ?_)
      | (with_reducible refine LeO.bind ?_ (fun _ => ?_))
      | exact ih0 _ _ _ _ _
      | exact ih1 _ _ _ _ _ _ _
      | exact horariumref10_Before.mono _ _ _
      | exact horariumref10_Of.mono _ _ _
      | exact horariumref11_Least.mono _ _
      | exact horariumref11_Length.mono _ _
      | exact LeO.none _
      | refine LeO.ite ?_ ?_
      | refine LeO.bind ?_ (fun _ => ?_)
set_option maxHeartbeats 8000000 in
set_option maxRecDepth 100000 in
theorem horariumref12_Path.calls (k : Nat) (A0 : Option Addr) (c0 : Nat) (l0 : List (S28)) (r : List Int) (w : World) (hr0 : Kd.C k28 w A0 l0.length l0) (hc0 : l0.length ≤ c0) (h : horariumref12_Path.f k l0 = some r) :
    Calls Try.prog 33 #[.slice A0 l0.length c0] w fun e w' => ∃ v0_ : Value, e = .returned (v0_) ∧ Kd.R (Kd.int .i64) 2 w' w.heap.size (fun _ => True) v0_ r ∧ Below w.heap.size w w' := by
  have HR0 := Aside0.mk hr0
  have HC0 := Aside0.mk hc0
  clear hr0 hc0
  have HB := Aside0.mk (Below.refl w.heap.size w)
  have H : ((horariumref11_Length.f k l0).bind fun bt197 => (if bt197.2 = 0 then ((horariumref11_Least.f k l0).bind fun t199 => ((horariumref10_Before.f k l0 bt197.1).bind fun bt200 => (horariumref12_Path.l0 k l0 t199 bt200.1 bt200.2 ([] : List Int)))) else (some ([] : List Int)))) = some r := h
  clear h
  replace H := Option.bind_eq_some_iff.mp H
  obtain ⟨⟨t197, t198⟩, A20, H⟩ := H
  replace H : (if t198 = 0 then ((horariumref11_Least.f k l0).bind fun t199 => ((horariumref10_Before.f k l0 t197).bind fun bt200 => (horariumref12_Path.l0 k l0 t199 bt200.1 bt200.2 ([] : List Int)))) else (some ([] : List Int))) = some r := H
  have A2 := Aside0.mk A20
  clear A20
  by_cases c3 : t198 = 0
  · rw [if_pos c3] at H
    have c3b0 : (t198 == 0) = true := beq_iff_eq.mpr c3
    have c3b1 : (t198 != 0) = false := bne_eq_false_iff_eq.mpr c3
    clear c3
    replace H := Option.bind_eq_some_iff.mp H
    obtain ⟨t199, A40, H⟩ := H
    replace H : ((horariumref10_Before.f k l0 t197).bind fun bt200 => (horariumref12_Path.l0 k l0 t199 bt200.1 bt200.2 ([] : List Int))) = some r := H
    have A4 := Aside0.mk A40
    clear A40
    replace H := Option.bind_eq_some_iff.mp H
    obtain ⟨⟨t200, t201⟩, A50, H⟩ := H
    replace H : (horariumref12_Path.l0 k l0 t199 t200 t201 ([] : List Int)) = some r := H
    have A5 := Aside0.mk A50
    clear A50
    have H' := Aside0.mk H
    clear H
    go_enter Try.func33, Try.ntmps33
    go_wp2_with (first | ((with_reducible refine gate_callee (f := 49) rfl ?_); refine goesL_ (some 12) rfl rfl Try.func49 (by kernel_rfl) rfl #[.slice A0 l0.length c0] rfl (by (try simp only [List.map_toArray, List.map_cons, List.map_nil]); first | done | rfl | (simp only [List.length_drop, List.length_take]; rfl)) ?_; (with_reducible refine (horariumref11_Length.calls k _ _ l0 t197 t198 _ ?side1 ?side2 A2.out).mono ?_); (case side1 => repeat (first | exact HR0.out | (with_reducible refine Kd.C_alloc ?_ _) | (with_reducible refine Kd.C_drewN ?_ _) | (with_reducible refine Kd.C_drew ?_))); (case side2 => exact HC0.out); rintro e w6 ⟨rfl, hb⟩; refine ⟨_, rfl, ?_⟩; have n0_ := Aside0.mk (below_step (by repeat (first | (with_reducible first | exact HB.out | apply below_alloc | apply pw_below_drewN | apply below_drew1) | exact HB.out)) hb); clear HB; have HB := n0_; clear n0_; (try clear hb); (try clear hb2); (try clear hk); (try clear hi)) | ((with_reducible refine gate_callee (f := 54) rfl ?_); refine goesL_ (some 18) rfl rfl Try.func54 (by kernel_rfl) rfl #[.slice A0 l0.length c0] rfl (by (try simp only [List.map_toArray, List.map_cons, List.map_nil]); first | done | rfl | (simp only [List.length_drop, List.length_take]; rfl)) ?_; (with_reducible refine (horariumref11_Least.calls k _ _ l0 t199 _ ?side1 ?side2 A4.out).mono ?_); (case side1 => repeat (first | exact (Kd.C_below HR0.out HB.out) | (with_reducible refine Kd.C_alloc ?_ _) | (with_reducible refine Kd.C_drewN ?_ _) | (with_reducible refine Kd.C_drew ?_))); (case side2 => exact HC0.out); rintro e w7 ⟨rfl, hb⟩; refine ⟨_, rfl, ?_⟩; have n0_ := Aside0.mk (below_step (by repeat (first | (with_reducible first | exact HB.out | apply below_alloc | apply pw_below_drewN | apply below_drew1) | exact HB.out)) hb); clear HB; have HB := n0_; clear n0_; (try clear hb); (try clear hb2); (try clear hk); (try clear hi)) | ((with_reducible refine gate_callee (f := 56) rfl ?_); refine goesL_ (some 22) rfl rfl Try.func56 (by kernel_rfl) rfl #[.slice A0 l0.length c0, .int .i64 t197] rfl (by (try simp only [List.map_toArray, List.map_cons, List.map_nil]); first | done | rfl | (simp only [List.length_drop, List.length_take]; rfl)) ?_; (with_reducible refine (horariumref10_Before.calls k _ _ l0 t197 t200 t201 _ ?side1 ?side2 A5.out).mono ?_); (case side1 => repeat (first | exact (Kd.C_below HR0.out HB.out) | (with_reducible refine Kd.C_alloc ?_ _) | (with_reducible refine Kd.C_drewN ?_ _) | (with_reducible refine Kd.C_drew ?_))); (case side2 => exact HC0.out); rintro e w8 ⟨rfl, hb⟩; refine ⟨_, rfl, ?_⟩; have n0_ := Aside0.mk (below_step (by repeat (first | (with_reducible first | exact HB.out | apply below_alloc | apply pw_below_drewN | apply below_drew1) | exact HB.out)) hb); clear HB; have HB := n0_; clear n0_; (try clear hb); (try clear hb2); (try clear hk); (try clear hi)))
    go_loopg [6, 7, 8] k (fun kq v6 v7 v8 w' => ∃ (x6_1 : Int) (x7_1 : Bool) (x8_1 : List Int), v6 = .int .i64 x6_1 ∧ v7 = .bool x7_1 ∧ Aside0 (horariumref12_Path.l0 kq l0 t199 x6_1 x7_1 x8_1 = some r) ∧ Aside0 (kq ≤ k) ∧ Aside0 (Kd.R (Kd.int .i64) 2 w' w.heap.size (fun _ => True) v8 x8_1) ∧ Aside0 (Below w.heap.size w w'))
    case atStart => exact ⟨(t200), (t201), (([] : List Int)), (by first | rfl | (simp; done) | (simp [*]; done)), (by first | rfl | (simp; done) | (simp [*]; done)), H', ⟨Nat.le_refl _⟩, ⟨by first | exact Kd.R_nil _ _ _ _ _ | exact Kd.N_nil _ _ _ _ _ | exact Kd.V_nil _ _ _ _ _ | exact Kd.Q_nil _ _ _ _ _ | exact Kd.S_nil _ _ _ _ _⟩, ⟨by repeat (first | (with_reducible first | exact HB.out | apply below_alloc | apply pw_below_drewN | apply below_drew1) | exact HB.out)⟩⟩
    case round =>
      clear H'
      try clear p2
      try clear c3
      try clear c3b0
      try clear c3b1
      try clear c4
      try clear c5
      obtain ⟨x6_1, x7_1, x8_1, rfl, rfl, HA, HK1, HO_8, HB⟩ := hrel
      cases gk with
      | zero => exact absurd HA.out (by simp [horariumref12_Path.l0])
      | succ k1 =>
        have H := HA.out
        clear HA
        simp only [horariumref12_Path.l0] at H
        by_cases c9 : x7_1 = true
        · subst c9
          have H1 : (if x8_1.length < 17592186044416 then ((some (x8_1 ++ [x6_1] : List Int)).bind fun y202 => ((horariumref10_Of.f k1 l0 x6_1).bind fun t205 => (if t205 > x6_1 then (horariumref12_Path.j1 k1 l0 t199 x6_1 true y202 t205 true) else (horariumref12_Path.j1 k1 l0 t199 x6_1 true y202 t205 (decide (t205 ≤ t199)))))) else (none)) = some r := by rw [if_pos rfl] at H; exact H
          clear H
          have H := H1
          clear H1
          by_cases c10 : x8_1.length < 17592186044416
          · rw [if_pos c10] at H
            have LMc10 := Aside0.mk c10
            clear c10
            obtain ⟨y202, hy202⟩ : ∃ y_ : List Int, y_ = (x8_1 ++ [x6_1]) := ⟨_, rfl⟩
            replace H : ((horariumref10_Of.f k1 l0 x6_1).bind fun t205 => (if t205 > x6_1 then (horariumref12_Path.j1 k1 l0 t199 x6_1 true y202 t205 true) else (horariumref12_Path.j1 k1 l0 t199 x6_1 true y202 t205 (decide (t205 ≤ t199))))) = some r := by first | (rw [hy202]; with_reducible exact H) | (have H2_ := (Option.bind_some _ _).symm.trans H; rw [hy202]; with_reducible exact H2_) | (have H2_ := (Option.bind_some _ _).symm.trans H; with_reducible exact H2_) | with_reducible exact H | (rw [hy202]; exact H) | exact H
            have Ny202 := Aside0.mk hy202
            clear hy202
            replace H := Option.bind_eq_some_iff.mp H
            obtain ⟨t205, A110, H⟩ := H
            replace H : (if t205 > x6_1 then (horariumref12_Path.j1 k1 l0 t199 x6_1 true y202 t205 true) else (horariumref12_Path.j1 k1 l0 t199 x6_1 true y202 t205 (decide (t205 ≤ t199)))) = some r := H
            have A11 := Aside0.mk A110
            clear A110
            have HC12 := Aside0.mk H
            clear H
            go_upto_region 10 with (first | ((with_reducible refine gate_builtin (b := .append) (xs := #[.tmp 26, .tmp 28]) rfl ?_); at_builtin; refine Kd.R_append (Kd.int .i64) (w0 := w) w.heap.size rfl (.tmp 26) (.tmp 28) 44 2 (.int .i64 0) 8 rfl Try.underlying44 info2 rfl (by decide) (by omega) u8 x8_1 x6_1 [.int .i64 x6_1] (fun _ => True) (fun _ => False) rfl rfl ?aP (fun _ hk => hk.elim) ?aF ?aO ?aB ?aS ?aL ?_; (case aP => exact rfl); (case aB => exact (by repeat (first | (with_reducible first | exact HB.out | apply below_alloc | apply pw_below_drewN | apply below_drew1) | exact HB.out))); (case aF => exact (fun _ _ => trivial)); (case aO => exact (by (with_reducible repeat (first | apply Kd.R_alloc | apply Kd.R_drewN | apply Kd.R_drew)); exact HO_8.out)); (case aS => exact (below_size (by repeat (first | (with_reducible first | exact HB.out | apply below_alloc | apply pw_below_drewN | apply below_drew1) | exact HB.out)))); (case aL => have := LMc10.out; omega); intro v203 w13 ho hb hg hat; rw [← Ny202.out] at ho; have n0_ := Aside0.mk (hb); have n1_ := Aside0.mk (ho); clear HB; clear HO_8; have HB := n0_; have HO204 := n1_; clear n0_ n1_; clear ho hb hg hat) | ((with_reducible refine gate_callee (f := 34) rfl ?_); refine goesL_ (some 32) rfl rfl Try.func34 (by kernel_rfl) rfl #[.slice A0 l0.length c0, .int .i64 x6_1] rfl (by (try simp only [List.map_toArray, List.map_cons, List.map_nil]); first | done | rfl | (simp only [List.length_drop, List.length_take]; rfl)) ?_; (with_reducible refine (horariumref10_Of.calls k1 _ _ l0 x6_1 t205 _ ?side1 ?side2 A11.out).mono ?_); (case side1 => repeat (first | exact (Kd.C_below HR0.out HB.out) | (with_reducible refine Kd.C_alloc ?_ _) | (with_reducible refine Kd.C_drewN ?_ _) | (with_reducible refine Kd.C_drew ?_))); (case side2 => exact HC0.out); rintro e w14 ⟨rfl, hb⟩; refine ⟨_, rfl, ?_⟩; have n0_ := Aside0.mk (Kd.R_below (by (with_reducible repeat (first | apply Kd.R_alloc | apply Kd.R_drewN | apply Kd.R_drew)); exact HO204.out) hb); have n1_ := Aside0.mk (below_step (by repeat (first | (with_reducible first | exact HB.out | apply below_alloc | apply pw_below_drewN | apply below_drew1) | exact HB.out)) hb); clear HO204; clear HB; have HO204 := n0_; have HB := n1_; clear n0_ n1_; (try clear hb); (try clear hb2); (try clear hk); (try clear hi)))
            (try simp only [Act.put, List.setIfInBounds_toArray, List.set_cons_zero, List.set_cons_succ])
            go_cut [40] (fun v40 wc => ∃ (kq : Nat) (x40_11 : Bool), v40 = .bool x40_11 ∧ Aside0 (horariumref12_Path.j1 kq l0 t199 x6_1 true y202 t205 x40_11 = some r) ∧ Aside0 (kq ≤ k1) ∧ Aside0 (Kd.R (Kd.int .i64) 2 wc w.heap.size (fun _ => True) v203 y202) ∧ Aside0 (Below w.heap.size w wc))
            case first =>
              have H := HC12.out
              clear HC12
              by_cases c15 : t205 > x6_1
              · rw [if_pos c15] at H
                have c15b0 : decide (x6_1 < t205) = true := decide_eq_true c15
                clear c15
                (first | rw [c15b0] | (simp only [i64_w, i32_w]; rw [c15b0]) | skip)
                have H' := Aside0.mk H
                clear H
                go_wp2
                go_meet
                case rel => exact ⟨_, (true), (by first | rfl | (simp; done) | (simp [*]; done)), H', ⟨by have := HK1.out; first | omega | exact Nat.le_refl _⟩, ⟨by (with_reducible repeat (first | apply Kd.R_alloc | apply Kd.R_drewN | apply Kd.R_drew)); exact HO204.out⟩, ⟨by repeat (first | (with_reducible first | exact HB.out | apply below_alloc | apply pw_below_drewN | apply below_drew1) | exact HB.out)⟩⟩
              · rw [if_neg c15] at H
                have c15b0 : decide (x6_1 < t205) = false := decide_eq_false c15
                clear c15
                (first | rw [c15b0] | (simp only [i64_w, i32_w]; rw [c15b0]) | skip)
                have H' := Aside0.mk H
                clear H
                go_wp2
                go_meet
                case rel => exact ⟨_, (decide (t205 ≤ t199)), (by first | rfl | (simp; done) | (simp [*]; done)), H', ⟨by have := HK1.out; first | omega | exact Nat.le_refl _⟩, ⟨by (with_reducible repeat (first | apply Kd.R_alloc | apply Kd.R_drewN | apply Kd.R_drew)); exact HO204.out⟩, ⟨by repeat (first | (with_reducible first | exact HB.out | apply below_alloc | apply pw_below_drewN | apply below_drew1) | exact HB.out)⟩⟩
            case rest =>
              clear HC12
              try clear c1
              try clear p2
              try clear c3
              try clear c3b0
              try clear c3b1
              try clear c4
              try clear c5
              try clear c9
              try clear c10
              try clear c15
              try clear c15b0
              try clear p2
              obtain ⟨kq, x40_11, rfl, HA, HJ11, HO_8, HB⟩ := hcut
              cases kq with
              | zero => exact absurd HA.out (by simp [horariumref12_Path.j1])
              | succ kj11 =>
                have H := HA.out
                clear HA
                simp only [horariumref12_Path.j1] at H
                by_cases c16 : x40_11 = true
                · subst c16
                  have H1 : (some y202) = some r := by rw [if_pos rfl] at H; exact H
                  clear H
                  have H := H1
                  clear H1
                  obtain rfl := Option.some.inj H
                  go_wp2
                  go_ret
                  exact ⟨_, by first | rfl | (simp [errW_none, errW_some] <;> rfl) | (simp [*, errW_none, errW_some] <;> rfl), by (with_reducible repeat (first | apply Kd.R_alloc | apply Kd.R_drewN | apply Kd.R_drew)); exact HO_8.out, by repeat (first | (with_reducible first | exact HB.out | apply below_alloc | apply pw_below_drewN | apply below_drew1) | exact HB.out)⟩
                · replace c16 := Bool.eq_false_iff.mpr c16
                  subst c16
                  have H1 : (if t205 < x6_1 then (horariumref12_Path.l0 kj11 l0 t199 t205 true y202) else ((horariumref10_Before.f kj11 l0 x6_1).bind fun bt206 => (horariumref12_Path.l0 kj11 l0 t199 bt206.1 bt206.2 y202))) = some r := by rw [if_neg (show ¬ (false = true) by decide)] at H; exact H
                  clear H
                  have H := H1
                  clear H1
                  by_cases c17 : t205 < x6_1
                  · rw [if_pos c17] at H
                    have c17b0 : decide (t205 < x6_1) = true := decide_eq_true c17
                    clear c17
                    have H' := Aside0.mk H
                    clear H
                    go_wp2
                    go_roundg kj11
                    case measure => have := HK1.out; have := HJ11.out; omega
                    case rel => exact ⟨(t205), (true), (y202), (by first | rfl | (simp; done) | (simp [*]; done)), (by first | rfl | (simp; done) | (simp [*]; done)), H', ⟨by have := HK1.out; have := HJ11.out; omega⟩, ⟨by (with_reducible repeat (first | apply Kd.R_alloc | apply Kd.R_drewN | apply Kd.R_drew)); exact HO_8.out⟩, ⟨by repeat (first | (with_reducible first | exact HB.out | apply below_alloc | apply pw_below_drewN | apply below_drew1) | exact HB.out)⟩⟩
                  · rw [if_neg c17] at H
                    have c17b0 : decide (t205 < x6_1) = false := decide_eq_false c17
                    clear c17
                    replace H := Option.bind_eq_some_iff.mp H
                    obtain ⟨⟨t206, t207⟩, A180, H⟩ := H
                    replace H : (horariumref12_Path.l0 kj11 l0 t199 t206 t207 y202) = some r := H
                    have A18 := Aside0.mk A180
                    clear A180
                    have H' := Aside0.mk H
                    clear H
                    go_wp2_with (first | ((with_reducible refine gate_callee (f := 56) rfl ?_); refine goesL_ (some 49) rfl rfl Try.func56 (by kernel_rfl) rfl #[.slice A0 l0.length c0, .int .i64 x6_1] rfl (by (try simp only [List.map_toArray, List.map_cons, List.map_nil]); first | done | rfl | (simp only [List.length_drop, List.length_take]; rfl)) ?_; (with_reducible refine (horariumref10_Before.calls kj11 _ _ l0 x6_1 t206 t207 _ ?side1 ?side2 A18.out).mono ?_); (case side1 => repeat (first | exact (Kd.C_below HR0.out HB.out) | (with_reducible refine Kd.C_alloc ?_ _) | (with_reducible refine Kd.C_drewN ?_ _) | (with_reducible refine Kd.C_drew ?_))); (case side2 => exact HC0.out); rintro e w19 ⟨rfl, hb⟩; refine ⟨_, rfl, ?_⟩; have n0_ := Aside0.mk (Kd.R_below (by (with_reducible repeat (first | apply Kd.R_alloc | apply Kd.R_drewN | apply Kd.R_drew)); exact HO_8.out) hb); have n1_ := Aside0.mk (below_step (by repeat (first | (with_reducible first | exact HB.out | apply below_alloc | apply pw_below_drewN | apply below_drew1) | exact HB.out)) hb); clear HO_8; clear HB; have HO_8 := n0_; have HB := n1_; clear n0_ n1_; (try clear hb); (try clear hb2); (try clear hk); (try clear hi)))
                    go_roundg kj11
                    case measure => have := HK1.out; have := HJ11.out; omega
                    case rel => exact ⟨(t206), (t207), (y202), (by first | rfl | (simp; done) | (simp [*]; done)), (by first | rfl | (simp; done) | (simp [*]; done)), H', ⟨by have := HK1.out; have := HJ11.out; omega⟩, ⟨by (with_reducible repeat (first | apply Kd.R_alloc | apply Kd.R_drewN | apply Kd.R_drew)); exact HO_8.out⟩, ⟨by repeat (first | (with_reducible first | exact HB.out | apply below_alloc | apply pw_below_drewN | apply below_drew1) | exact HB.out)⟩⟩
          · rw [if_neg c10] at H
            exact absurd H (by simp)
        · replace c9 := Bool.eq_false_iff.mpr c9
          subst c9
          have H1 : (some x8_1) = some r := by rw [if_neg (show ¬ (false = true) by decide)] at H; exact H
          clear H
          have H := H1
          clear H1
          obtain rfl := Option.some.inj H
          go_wp2
          go_ret
          exact ⟨_, by first | rfl | (simp [errW_none, errW_some] <;> rfl) | (simp [*, errW_none, errW_some] <;> rfl), by (with_reducible repeat (first | apply Kd.R_alloc | apply Kd.R_drewN | apply Kd.R_drew)); exact HO_8.out, by repeat (first | (with_reducible first | exact HB.out | apply below_alloc | apply pw_below_drewN | apply below_drew1) | exact HB.out)⟩
  · rw [if_neg c3] at H
    have c3b0 : (t198 == 0) = false := beq_eq_false_iff_ne.mpr c3
    have c3b1 : (t198 != 0) = true := bne_iff_ne.mpr c3
    obtain rfl := Option.some.inj H
    go_enter Try.func33, Try.ntmps33
    go_wp2_with (first | ((with_reducible refine gate_callee (f := 49) rfl ?_); refine goesL_ (some 12) rfl rfl Try.func49 (by kernel_rfl) rfl #[.slice A0 l0.length c0] rfl (by (try simp only [List.map_toArray, List.map_cons, List.map_nil]); first | done | rfl | (simp only [List.length_drop, List.length_take]; rfl)) ?_; (with_reducible refine (horariumref11_Length.calls k _ _ l0 t197 t198 _ ?side1 ?side2 A2.out).mono ?_); (case side1 => repeat (first | exact HR0.out | (with_reducible refine Kd.C_alloc ?_ _) | (with_reducible refine Kd.C_drewN ?_ _) | (with_reducible refine Kd.C_drew ?_))); (case side2 => exact HC0.out); rintro e w20 ⟨rfl, hb⟩; refine ⟨_, rfl, ?_⟩; have n0_ := Aside0.mk (below_step (by repeat (first | (with_reducible first | exact HB.out | apply below_alloc | apply pw_below_drewN | apply below_drew1) | exact HB.out)) hb); clear HB; have HB := n0_; clear n0_; (try clear hb); (try clear hb2); (try clear hk); (try clear hi)))
    go_ret
    exact ⟨_, by first | rfl | (simp [errW_none, errW_some] <;> rfl) | (simp [*, errW_none, errW_some] <;> rfl), by first | exact Kd.R_nil _ _ _ _ _ | exact Kd.N_nil _ _ _ _ _ | exact Kd.V_nil _ _ _ _ _ | exact Kd.Q_nil _ _ _ _ _ | exact Kd.S_nil _ _ _ _ _, by repeat (first | (with_reducible first | exact HB.out | apply below_alloc | apply pw_below_drewN | apply below_drew1) | exact HB.out)⟩

end Go.Proofs.Ythiepacmdlgajaa.PQpaPaths
