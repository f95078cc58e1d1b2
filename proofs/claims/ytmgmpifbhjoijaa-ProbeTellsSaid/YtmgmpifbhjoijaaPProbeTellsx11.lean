-- Made by px.py (a program of this session, over the kit's printer) out of the translation. Not trusted: Lean checks it.
import Derived.Test.YtmgmpifbhjoijaaPProbeTellsx0
import Derived.Test.YtmgmpifbhjoijaaPProbeTellsx7
import Derived.Test.YtmgmpifbhjoijaaPProbeTellsx8
import Derived.Test.YtmgmpifbhjoijaaPProbeTellsx10
namespace Go.Proofs.Ytmgmpifbhjoijaa.PProbeTells
open Go.RowKit Go.Proofs.YtmgmpifbhjoijaaW.PrintWords Go.Proofs.YtmgmpifbhjoijaaW.PrintLast Go.Proofs.YtmgmpifbhjoijaaW.PrintMore
attribute [local go_sem] max2_int min2_int max_two min_two max_three min_three max_four min_four   -- for this text's walks alone
set_option linter.unusedVariables false
set_option linter.unusedSimpArgs false

/-! ### r10_Next: function 86 -/
mutual
def r10_Next.j0 : Nat → List (S28) → Int → Bool → Option (Int × Bool)
  | 0, _, _, _ => none
  | k + 1, x0, x1, x25 => if x25 = true then (some (0, false)) else (if 0 < (x0.length : Int) then ((r10_next.f ((rd_T28 x0 0).f0) ((rd_T28 x0 0).f1) ((rd_T28 x0 0).f2) ((rd_T28 x0 0).f3) ((rd_T28 x0 0).f4) x1).bind fun t207 => (r10_Next.l0 k x0 x1 t207 1)) else (none))
def r10_Next.l0 : Nat → List (S28) → Int → Int → Int → Option (Int × Bool)
  | 0, _, _, _, _ => none
  | k + 1, x0, x1, x8, x9 => if x9 < (x0.length : Int) then (if 0 ≤ x9 then ((r10_next.f ((rd_T28 x0 x9).f0) ((rd_T28 x0 x9).f1) ((rd_T28 x0 x9).f2) ((rd_T28 x0 x9).f3) ((rd_T28 x0 x9).f4) x1).bind fun t209 => (if t209 < x8 then (r10_Next.l0 k x0 x1 t209 (wrap64 (x9 + 1))) else (r10_Next.l0 k x0 x1 x8 (wrap64 (x9 + 1))))) else (none)) else (if x8 > 1099511627776 then (some (0, false)) else (some (x8, true)))
end
def r10_Next.f (k : Nat) (l0 : List (S28)) (a1 : Int) : Option (Int × Bool) := (r09_Row.f k l0).bind fun t204 => ((r10_time.f a1).bind fun t205 => (if t204 = true then (if t205 = true then (r10_Next.j0 k l0 a1 ((l0.length : Int) == 0)) else (r10_Next.j0 k l0 a1 true)) else (r10_Next.j0 k l0 a1 true)))
theorem r10_Next.mono_l : ∀ k, (∀ y0 y1 y2, LeO (r10_Next.j0 k y0 y1 y2) (r10_Next.j0 (k + 1) y0 y1 y2)) ∧ (∀ y0 y1 y2 y3, LeO (r10_Next.l0 k y0 y1 y2 y3) (r10_Next.l0 (k + 1) y0 y1 y2 y3))
  | 0 => ⟨fun _ _ _ r h => by simp [r10_Next.j0] at h, fun _ _ _ _ r h => by simp [r10_Next.l0] at h⟩
  | k + 1 => by
    obtain ⟨ih0, ih1⟩ := r10_Next.mono_l k
    refine ⟨?_, ?_⟩
    · intro y0 y1 y2
      unfold r10_Next.j0
      repeat' first
      | (with_reducible exact ih0 _ _ _)
      | (with_reducible exact ih1 _ _ _ _)
      | (with_reducible exact r09_Row.mono _ _)
      | (with_reducible exact LeO.refl _)
      | (with_reducible exact LeO.none _)
      | (with_reducible refine LeO.ite ?_ ?_)
      | (with_reducible refine LeO.bind ?_ (fun _ => ?_))
      | exact ih0 _ _ _
      | exact ih1 _ _ _ _
      | exact r09_Row.mono _ _
      | exact LeO.none _
      | refine LeO.ite ?_ ?_
      | refine LeO.bind ?_ (fun _ => ?_)
    · intro y0 y1 y2 y3
      unfold r10_Next.l0
      repeat' first
      | (with_reducible exact ih0 _ _ _)
      | (with_reducible exact ih1 _ _ _ _)
      | (with_reducible exact r09_Row.mono _ _)
      | (with_reducible exact LeO.refl _)
      | (with_reducible exact LeO.none _)
      | (with_reducible refine LeO.ite ?_ ?_)
      | (with_reducible refine LeO.bind ?_ (fun _ => ?_))
      | exact ih0 _ _ _
      | exact ih1 _ _ _ _
      | exact r09_Row.mono _ _
      | exact LeO.none _
      | refine LeO.ite ?_ ?_
      | refine LeO.bind ?_ (fun _ => ?_)
theorem r10_Next.mono : ∀ a0 a1 k, LeO (r10_Next.f k a0 a1) (r10_Next.f (k + 1) a0 a1) := by
  intro a0 a1 k
  obtain ⟨ih0, ih1⟩ := r10_Next.mono_l k
  unfold r10_Next.f
  repeat' first
      | (with_reducible exact ih0 _ _ _)
      | (with_reducible exact ih1 _ _ _ _)
      | (with_reducible exact r09_Row.mono _ _)
      | (with_reducible exact LeO.refl _)
      | (with_reducible exact LeO.none _)
      | (with_reducible refine LeO.ite ?_ ?_)
      | (with_reducible refine LeO.bind ?_ (fun _ => ?_))
      | exact ih0 _ _ _
      | exact ih1 _ _ _ _
      | exact r09_Row.mono _ _
      | exact LeO.none _
      | refine LeO.ite ?_ ?_
      | refine LeO.bind ?_ (fun _ => ?_)
set_option maxHeartbeats 8000000 in
set_option maxRecDepth 100000 in
theorem r10_Next.calls (k : Nat) (A0 : Option Addr) (c0 : Nat) (l0 : List (S28)) (a1 : Int) (r1 : Int) (r2 : Bool) (w : World) (hr0 : Kd.C k28 w A0 l0.length l0) (hc0 : l0.length ≤ c0) (h : r10_Next.f k l0 a1 = some (r1, r2)) :
    Calls Try.prog 86 #[.slice A0 l0.length c0, .int .i64 a1] w fun e w' => e = .returned (.tuple #[.int .i64 r1, .bool r2]) ∧ Below w.heap.size w w' := by
  have hu28 := Try.underlying28
  have HR0 := Aside0.mk hr0
  have HC0 := Aside0.mk hc0
  clear hr0 hc0
  have HB := Aside0.mk (Below.refl w.heap.size w)
  have H : ((r09_Row.f k l0).bind fun t204 => ((r10_time.f a1).bind fun t205 => (if t204 = true then (if t205 = true then (r10_Next.j0 k l0 a1 ((l0.length : Int) == 0)) else (r10_Next.j0 k l0 a1 true)) else (r10_Next.j0 k l0 a1 true)))) = some (r1, r2) := h
  clear h
  replace H := Option.bind_eq_some_iff.mp H
  obtain ⟨t204, A30, H⟩ := H
  replace H : ((r10_time.f a1).bind fun t205 => (if t204 = true then (if t205 = true then (r10_Next.j0 k l0 a1 ((l0.length : Int) == 0)) else (r10_Next.j0 k l0 a1 true)) else (r10_Next.j0 k l0 a1 true))) = some (r1, r2) := H
  have A3 := Aside0.mk A30
  clear A30
  replace H := Option.bind_eq_some_iff.mp H
  obtain ⟨t205, A40, H⟩ := H
  replace H : (if t204 = true then (if t205 = true then (r10_Next.j0 k l0 a1 ((l0.length : Int) == 0)) else (r10_Next.j0 k l0 a1 true)) else (r10_Next.j0 k l0 a1 true)) = some (r1, r2) := H
  have A4 := Aside0.mk A40
  clear A40
  have HC5 := Aside0.mk H
  clear H
  go_enter Try.func86, Try.ntmps86
  go_upto_region 3 with (first | ((with_reducible refine gate_callee (f := 41) rfl ?_); refine goesL_ (some 12) rfl rfl Try.func41 (by kernel_rfl) rfl #[.slice A0 l0.length c0] rfl (by (try simp only [List.map_toArray, List.map_cons, List.map_nil]); first | done | rfl | (simp only [List.length_drop, List.length_take]; rfl)) ?_; (with_reducible refine (r09_Row.calls k _ _ l0 t204 _ ?side1 ?side2 A3.out).mono ?_); (case side1 => repeat (first | exact HR0.out | (with_reducible refine Kd.C_alloc ?_ _) | (with_reducible refine Kd.C_drewN ?_ _) | (with_reducible refine Kd.C_drew ?_))); (case side2 => exact HC0.out); rintro e w6 ⟨rfl, hb⟩; refine ⟨_, rfl, ?_⟩; have n0_ := Aside0.mk (below_step (by repeat (first | (with_reducible first | exact HB.out | apply below_alloc | apply pw_below_drewN | apply below_drew1) | exact HB.out)) hb); clear HB; have HB := n0_; clear n0_; (try clear hb); (try clear hb2); (try clear hk); (try clear hi)) | ((with_reducible refine gate_callee (f := 85) rfl ?_); refine goesL_ (some 14) rfl rfl Try.func85 (by kernel_rfl) rfl #[.int .i64 a1] rfl (by (try simp only [List.map_toArray, List.map_cons, List.map_nil]); first | done | rfl | (simp only [List.length_drop, List.length_take]; rfl)) ?_; (with_reducible refine (r10_time.calls a1 t205 _ A4.out).mono ?_); rintro e w' ⟨rfl, ⟨nd, rfl⟩⟩; refine ⟨_, rfl, ?_⟩))
  (try simp only [Act.put, List.setIfInBounds_toArray, List.set_cons_zero, List.set_cons_succ])
  go_cut [25] (fun v25 wc => ∃ (kq : Nat) (x25_4 : Bool), v25 = .bool x25_4 ∧ Aside0 (r10_Next.j0 kq l0 a1 x25_4 = some (r1, r2)) ∧ Aside0 (kq ≤ k) ∧ Aside0 (Below w.heap.size w wc))
  case first =>
    have H := HC5.out
    clear HC5
    by_cases c7 : t204 = true
    · subst c7
      have H1 : (if t205 = true then (r10_Next.j0 k l0 a1 ((l0.length : Int) == 0)) else (r10_Next.j0 k l0 a1 true)) = some (r1, r2) := by rw [if_pos rfl] at H; exact H
      clear H
      have H := H1
      clear H1
      by_cases c8 : t205 = true
      · subst c8
        have H1 : (r10_Next.j0 k l0 a1 ((l0.length : Int) == 0)) = some (r1, r2) := by rw [if_pos rfl] at H; exact H
        clear H
        have H := H1
        clear H1
        have H' := Aside0.mk H
        clear H
        go_wp2
        go_meet
        case rel => exact ⟨_, (((l0.length : Int) == 0)), (by first | rfl | (simp; done) | (simp [*]; done)), H', ⟨by first | omega | exact Nat.le_refl _⟩, ⟨by repeat (first | (with_reducible first | exact HB.out | apply below_alloc | apply pw_below_drewN | apply below_drew1) | exact HB.out)⟩⟩
      · replace c8 := Bool.eq_false_iff.mpr c8
        subst c8
        have H1 : (r10_Next.j0 k l0 a1 true) = some (r1, r2) := by rw [if_neg (show ¬ (false = true) by decide)] at H; exact H
        clear H
        have H := H1
        clear H1
        have H' := Aside0.mk H
        clear H
        go_wp2
        go_meet
        case rel => exact ⟨_, (true), (by first | rfl | (simp; done) | (simp [*]; done)), H', ⟨by first | omega | exact Nat.le_refl _⟩, ⟨by repeat (first | (with_reducible first | exact HB.out | apply below_alloc | apply pw_below_drewN | apply below_drew1) | exact HB.out)⟩⟩
    · replace c7 := Bool.eq_false_iff.mpr c7
      subst c7
      have H1 : (r10_Next.j0 k l0 a1 true) = some (r1, r2) := by rw [if_neg (show ¬ (false = true) by decide)] at H; exact H
      clear H
      have H := H1
      clear H1
      have H' := Aside0.mk H
      clear H
      go_wp2
      go_meet
      case rel => exact ⟨_, (true), (by first | rfl | (simp; done) | (simp [*]; done)), H', ⟨by first | omega | exact Nat.le_refl _⟩, ⟨by repeat (first | (with_reducible first | exact HB.out | apply below_alloc | apply pw_below_drewN | apply below_drew1) | exact HB.out)⟩⟩
  case rest =>
    clear HC5
    try clear p2
    try clear c4
    try clear c7
    try clear c8
    obtain ⟨kq, x25_4, rfl, HA, HJ4, HB⟩ := hcut
    cases kq with
    | zero => exact absurd HA.out (by simp [r10_Next.j0])
    | succ kj4 =>
      have H := HA.out
      clear HA
      simp only [r10_Next.j0] at H
      by_cases c9 : x25_4 = true
      · subst c9
        have H1 : (some (0, false)) = some (r1, r2) := by rw [if_pos rfl] at H; exact H
        clear H
        have H := H1
        clear H1
        simp only [Option.some.injEq, Prod.mk.injEq] at H
        obtain ⟨rfl, rfl⟩ := H
        go_wp2
        go_ret2
        exact ⟨by first | rfl | (simp [errW_none, errW_some] <;> rfl) | (simp [*, errW_none, errW_some] <;> rfl), by repeat (first | (with_reducible first | exact HB.out | apply below_alloc | apply pw_below_drewN | apply below_drew1) | exact HB.out)⟩
      · replace c9 := Bool.eq_false_iff.mpr c9
        subst c9
        have H1 : (if 0 < (l0.length : Int) then ((r10_next.f ((rd_T28 l0 0).f0) ((rd_T28 l0 0).f1) ((rd_T28 l0 0).f2) ((rd_T28 l0 0).f3) ((rd_T28 l0 0).f4) a1).bind fun t207 => (r10_Next.l0 kj4 l0 a1 t207 1)) else (none)) = some (r1, r2) := by rw [if_neg (show ¬ (false = true) by decide)] at H; exact H
        clear H
        have H := H1
        clear H1
        by_cases c10 : 0 < (l0.length : Int)
        · rw [if_pos c10] at H
          have c10b0 : decide (0 < (l0.length : Int)) = true := decide_eq_true c10
          have c10b1 : decide (0 < l0.length) = true := decide_eq_true (by omega)
          clear c10
          replace H := Option.bind_eq_some_iff.mp H
          obtain ⟨t207, A110, H⟩ := H
          replace H : (r10_Next.l0 kj4 l0 a1 t207 1) = some (r1, r2) := H
          have A11 := Aside0.mk A110
          clear A110
          have H' := Aside0.mk H
          clear H
          have p206 : 0 ≤ (0 : Int) := (by omega)
          have q206 : 0 < (l0.length : Int) := of_decide_eq_true (by first | (with_reducible assumption) | assumption)
          obtain ⟨ad206, e206, hx206_0, hx206_1, hx206_2, hx206_3, hx206_4⟩ := at_T28 HR0.out 0 p206 q206
          cases e206
          have qi206 : (0 < l0.length) = True := eq_true (by omega)
          (try rw [show ((0 : Int)).toNat = 0 from rfl] at hx206_0)
          (try rw [show 0 * 5 = 0 from rfl] at hx206_0)
          (try rw [Addr.add_zero'] at hx206_0)
          (try rw [show ((0 : Int)).toNat = 0 from rfl] at hx206_1)
          (try rw [show 0 * 5 = 0 from rfl] at hx206_1)
          (try rw [Addr.add_zero'] at hx206_1)
          (try rw [show ((0 : Int)).toNat = 0 from rfl] at hx206_2)
          (try rw [show 0 * 5 = 0 from rfl] at hx206_2)
          (try rw [Addr.add_zero'] at hx206_2)
          (try rw [show ((0 : Int)).toNat = 0 from rfl] at hx206_3)
          (try rw [show 0 * 5 = 0 from rfl] at hx206_3)
          (try rw [Addr.add_zero'] at hx206_3)
          (try rw [show ((0 : Int)).toNat = 0 from rfl] at hx206_4)
          (try rw [show 0 * 5 = 0 from rfl] at hx206_4)
          (try rw [Addr.add_zero'] at hx206_4)
          replace hx206_0 := (HB.out.cell (World.block_lt_of_cell? w _ hx206_0)).trans hx206_0
          replace hx206_1 := (HB.out.cell (World.block_lt_of_cell? w _ hx206_1)).trans hx206_1
          replace hx206_2 := (HB.out.cell (World.block_lt_of_cell? w _ hx206_2)).trans hx206_2
          replace hx206_3 := (HB.out.cell (World.block_lt_of_cell? w _ hx206_3)).trans hx206_3
          replace hx206_4 := (HB.out.cell (World.block_lt_of_cell? w _ hx206_4)).trans hx206_4
          replace p206 := eq_true p206
          replace q206 := eq_true q206
          go_wp2_with (first | ((with_reducible refine gate_callee (f := 106) rfl ?_); refine goesL_ (some 30) rfl rfl Try.func106 (by kernel_rfl) rfl #[.agg #[.int .i64 ((rd_T28 l0 0).f0), .int .i64 ((rd_T28 l0 0).f1), .int .i64 ((rd_T28 l0 0).f2), .int .i64 ((rd_T28 l0 0).f3), .int .i64 ((rd_T28 l0 0).f4)], .int .i64 a1] rfl (by (try simp only [List.map_toArray, List.map_cons, List.map_nil]); first | done | rfl | (simp only [List.length_drop, List.length_take]; rfl)) ?_; (with_reducible refine (r10_next.calls ((rd_T28 l0 0).f0) ((rd_T28 l0 0).f1) ((rd_T28 l0 0).f2) ((rd_T28 l0 0).f3) ((rd_T28 l0 0).f4) a1 t207 _ A11.out).mono ?_); rintro e w12 ⟨rfl, hb⟩; refine ⟨_, rfl, ?_⟩; have n0_ := Aside0.mk (below_step (by repeat (first | (with_reducible first | exact HB.out | apply below_alloc | apply pw_below_drewN | apply below_drew1) | exact HB.out)) hb); clear HB; have HB := n0_; clear n0_; (try clear hb); (try clear hb2); (try clear hk); (try clear hi)))
          go_loopg [8, 9] kj4 (fun kq v8 v9 w' => ∃ (x8_2 : Int) (x9_2 : Int), v8 = .int .i64 x8_2 ∧ v9 = .int .i64 x9_2 ∧ Aside0 (r10_Next.l0 kq l0 a1 x8_2 x9_2 = some (r1, r2)) ∧ Aside0 (kq ≤ kj4) ∧ Aside0 (Below w.heap.size w w'))
          case atStart => exact ⟨(t207), (1), (by first | rfl | (simp; done) | (simp [*]; done)), (by first | rfl | (simp; done) | (simp [*]; done)), H', ⟨Nat.le_refl _⟩, ⟨by repeat (first | (with_reducible first | exact HB.out | apply below_alloc | apply pw_below_drewN | apply below_drew1) | exact HB.out)⟩⟩
          case round =>
            clear H'
            try clear c1
            try clear p2
            try clear q2
            try clear hx2
            try clear qi2
            try clear c4
            try clear c7
            try clear c8
            try clear c9
            try clear c10
            try clear c10b0
            try clear c10b1
            try clear hx206_0
            try clear hx206_1
            try clear hx206_2
            try clear hx206_3
            try clear hx206_4
            try clear p2
            try clear p206
            try clear q206
            obtain ⟨x8_2, x9_2, rfl, rfl, HA, HK2, HB⟩ := hrel
            cases gk with
            | zero => exact absurd HA.out (by simp [r10_Next.l0])
            | succ k2 =>
              have H := HA.out
              clear HA
              simp only [r10_Next.l0] at H
              by_cases c13 : x9_2 < (l0.length : Int)
              · rw [if_pos c13] at H
                have c13b0 : decide (x9_2 < (l0.length : Int)) = true := decide_eq_true c13
                clear c13
                by_cases c14 : 0 ≤ x9_2
                · rw [if_pos c14] at H
                  have c14b0 : decide (0 ≤ x9_2) = true := decide_eq_true c14
                  clear c14
                  replace H := Option.bind_eq_some_iff.mp H
                  obtain ⟨t209, A150, H⟩ := H
                  replace H : (if t209 < x8_2 then (r10_Next.l0 k2 l0 a1 t209 (wrap64 (x9_2 + 1))) else (r10_Next.l0 k2 l0 a1 x8_2 (wrap64 (x9_2 + 1)))) = some (r1, r2) := H
                  have A15 := Aside0.mk A150
                  clear A150
                  by_cases c16 : t209 < x8_2
                  · rw [if_pos c16] at H
                    have c16b0 : decide (t209 < x8_2) = true := decide_eq_true c16
                    clear c16
                    have H' := Aside0.mk H
                    clear H
                    have p208 : 0 ≤ (x9_2 : Int) := of_decide_eq_true (by first | (with_reducible assumption) | assumption)
                    have q208 : x9_2 < (l0.length : Int) := of_decide_eq_true (by first | (with_reducible assumption) | assumption)
                    obtain ⟨ad208, e208, hx208_0, hx208_1, hx208_2, hx208_3, hx208_4⟩ := at_T28 HR0.out x9_2 p208 q208
                    obtain rfl : ad206 = ad208 := (by injection e208)
                    replace hx208_0 := (HB.out.cell (World.block_lt_of_cell? w _ hx208_0)).trans hx208_0
                    replace hx208_1 := (HB.out.cell (World.block_lt_of_cell? w _ hx208_1)).trans hx208_1
                    replace hx208_2 := (HB.out.cell (World.block_lt_of_cell? w _ hx208_2)).trans hx208_2
                    replace hx208_3 := (HB.out.cell (World.block_lt_of_cell? w _ hx208_3)).trans hx208_3
                    replace hx208_4 := (HB.out.cell (World.block_lt_of_cell? w _ hx208_4)).trans hx208_4
                    replace p208 := eq_true p208
                    replace q208 := eq_true q208
                    go_wp2_with (first | ((with_reducible refine gate_callee (f := 106) rfl ?_); refine goesL_ (some 42) rfl rfl Try.func106 (by kernel_rfl) rfl #[.agg #[.int .i64 ((rd_T28 l0 x9_2).f0), .int .i64 ((rd_T28 l0 x9_2).f1), .int .i64 ((rd_T28 l0 x9_2).f2), .int .i64 ((rd_T28 l0 x9_2).f3), .int .i64 ((rd_T28 l0 x9_2).f4)], .int .i64 a1] rfl (by (try simp only [List.map_toArray, List.map_cons, List.map_nil]); first | done | rfl | (simp only [List.length_drop, List.length_take]; rfl)) ?_; (with_reducible refine (r10_next.calls ((rd_T28 l0 x9_2).f0) ((rd_T28 l0 x9_2).f1) ((rd_T28 l0 x9_2).f2) ((rd_T28 l0 x9_2).f3) ((rd_T28 l0 x9_2).f4) a1 t209 _ A15.out).mono ?_); rintro e w17 ⟨rfl, hb⟩; refine ⟨_, rfl, ?_⟩; have n0_ := Aside0.mk (below_step (by repeat (first | (with_reducible first | exact HB.out | apply below_alloc | apply pw_below_drewN | apply below_drew1) | exact HB.out)) hb); clear HB; have HB := n0_; clear n0_; (try clear hb); (try clear hb2); (try clear hk); (try clear hi)))
                    go_roundg k2
                    case measure => have := HJ4.out; have := HK2.out; omega
                    case rel => exact ⟨(t209), (wrap64 (x9_2 + 1)), (by first | rfl | (simp; done) | (simp [*]; done)), (by first | rfl | (simp; done) | (simp [*]; done)), H', ⟨by have := HJ4.out; have := HK2.out; omega⟩, ⟨by repeat (first | (with_reducible first | exact HB.out | apply below_alloc | apply pw_below_drewN | apply below_drew1) | exact HB.out)⟩⟩
                  · rw [if_neg c16] at H
                    have c16b0 : decide (t209 < x8_2) = false := decide_eq_false c16
                    clear c16
                    have H' := Aside0.mk H
                    clear H
                    have p208 : 0 ≤ (x9_2 : Int) := of_decide_eq_true (by first | (with_reducible assumption) | assumption)
                    have q208 : x9_2 < (l0.length : Int) := of_decide_eq_true (by first | (with_reducible assumption) | assumption)
                    obtain ⟨ad208, e208, hx208_0, hx208_1, hx208_2, hx208_3, hx208_4⟩ := at_T28 HR0.out x9_2 p208 q208
                    obtain rfl : ad206 = ad208 := (by injection e208)
                    replace hx208_0 := (HB.out.cell (World.block_lt_of_cell? w _ hx208_0)).trans hx208_0
                    replace hx208_1 := (HB.out.cell (World.block_lt_of_cell? w _ hx208_1)).trans hx208_1
                    replace hx208_2 := (HB.out.cell (World.block_lt_of_cell? w _ hx208_2)).trans hx208_2
                    replace hx208_3 := (HB.out.cell (World.block_lt_of_cell? w _ hx208_3)).trans hx208_3
                    replace hx208_4 := (HB.out.cell (World.block_lt_of_cell? w _ hx208_4)).trans hx208_4
                    replace p208 := eq_true p208
                    replace q208 := eq_true q208
                    go_wp2_with (first | ((with_reducible refine gate_callee (f := 106) rfl ?_); refine goesL_ (some 42) rfl rfl Try.func106 (by kernel_rfl) rfl #[.agg #[.int .i64 ((rd_T28 l0 x9_2).f0), .int .i64 ((rd_T28 l0 x9_2).f1), .int .i64 ((rd_T28 l0 x9_2).f2), .int .i64 ((rd_T28 l0 x9_2).f3), .int .i64 ((rd_T28 l0 x9_2).f4)], .int .i64 a1] rfl (by (try simp only [List.map_toArray, List.map_cons, List.map_nil]); first | done | rfl | (simp only [List.length_drop, List.length_take]; rfl)) ?_; (with_reducible refine (r10_next.calls ((rd_T28 l0 x9_2).f0) ((rd_T28 l0 x9_2).f1) ((rd_T28 l0 x9_2).f2) ((rd_T28 l0 x9_2).f3) ((rd_T28 l0 x9_2).f4) a1 t209 _ A15.out).mono ?_); rintro e w18 ⟨rfl, hb⟩; refine ⟨_, rfl, ?_⟩; have n0_ := Aside0.mk (below_step (by repeat (first | (with_reducible first | exact HB.out | apply below_alloc | apply pw_below_drewN | apply below_drew1) | exact HB.out)) hb); clear HB; have HB := n0_; clear n0_; (try clear hb); (try clear hb2); (try clear hk); (try clear hi)))
                    go_roundg k2
                    case measure => have := HJ4.out; have := HK2.out; omega
                    case rel => exact ⟨(x8_2), (wrap64 (x9_2 + 1)), (by first | rfl | (simp; done) | (simp [*]; done)), (by first | rfl | (simp; done) | (simp [*]; done)), H', ⟨by have := HJ4.out; have := HK2.out; omega⟩, ⟨by repeat (first | (with_reducible first | exact HB.out | apply below_alloc | apply pw_below_drewN | apply below_drew1) | exact HB.out)⟩⟩
                · rw [if_neg c14] at H
                  exact absurd H (by simp)
              · rw [if_neg c13] at H
                have c13b0 : decide (x9_2 < (l0.length : Int)) = false := decide_eq_false c13
                clear c13
                by_cases c19 : x8_2 > 1099511627776
                · rw [if_pos c19] at H
                  have c19b0 : decide (1099511627776 < x8_2) = true := decide_eq_true c19
                  clear c19
                  simp only [Option.some.injEq, Prod.mk.injEq] at H
                  obtain ⟨rfl, rfl⟩ := H
                  go_wp2
                  go_ret2
                  exact ⟨by first | rfl | (simp [errW_none, errW_some] <;> rfl) | (simp [*, errW_none, errW_some] <;> rfl), by repeat (first | (with_reducible first | exact HB.out | apply below_alloc | apply pw_below_drewN | apply below_drew1) | exact HB.out)⟩
                · rw [if_neg c19] at H
                  have c19b0 : decide (1099511627776 < x8_2) = false := decide_eq_false c19
                  clear c19
                  simp only [Option.some.injEq, Prod.mk.injEq] at H
                  obtain ⟨rfl, rfl⟩ := H
                  go_wp2
                  go_ret2
                  exact ⟨by first | rfl | (simp [errW_none, errW_some] <;> rfl) | (simp [*, errW_none, errW_some] <;> rfl), by repeat (first | (with_reducible first | exact HB.out | apply below_alloc | apply pw_below_drewN | apply below_drew1) | exact HB.out)⟩
        · rw [if_neg c10] at H
          exact absurd H (by simp)

/-! ### r26_Tight: function 62 -/
mutual
def r26_Tight.l0 : Nat → List (S28) → Int → List Int → Int → Bool → Option (List Int)
  | 0, _, _, _, _, _ => none
  | k + 1, x0, x3, x5, x6, x7 => if x7 = true then (if x6 ≤ x3 then (r26_Tight.j1 k x0 x3 x5 x6 (decide ((x5.length : Int) < 4096))) else (r26_Tight.j1 k x0 x3 x5 x6 false)) else (r26_Tight.j1 k x0 x3 x5 x6 false)
def r26_Tight.j1 : Nat → List (S28) → Int → List Int → Int → Bool → Option (List Int)
  | 0, _, _, _, _, _ => none
  | k + 1, x0, x3, x5, x6, x31 => if x31 = true then ((r10_Of.f k x0 x6).bind fun t215 => (if t215 = x6 then (if x5.length < 17592186044416 then ((r10_Next.f k x0 x6).bind fun bt219 => (r26_Tight.l0 k x0 x3 (x5 ++ [x6]) bt219.1 bt219.2)) else (none)) else ((r10_Next.f k x0 x6).bind fun bt221 => (r26_Tight.l0 k x0 x3 x5 bt221.1 bt221.2)))) else (some x5)
end
def r26_Tight.f (k : Nat) (l0 : List (S28)) : Option (List Int) := (r12_Test.f k l0).bind fun t210 => (if t210 = 0 then ((r09_Period.f k l0).bind fun bt211 => ((r10_Next.f k l0 0).bind fun bt213 => (r26_Tight.l0 k l0 bt211.1 ([] : List Int) bt213.1 bt213.2))) else (some ([] : List Int)))
theorem r26_Tight.mono_l : ∀ k, (∀ y0 y1 y2 y3 y4, LeO (r26_Tight.l0 k y0 y1 y2 y3 y4) (r26_Tight.l0 (k + 1) y0 y1 y2 y3 y4)) ∧ (∀ y0 y1 y2 y3 y4, LeO (r26_Tight.j1 k y0 y1 y2 y3 y4) (r26_Tight.j1 (k + 1) y0 y1 y2 y3 y4))
  | 0 => ⟨fun _ _ _ _ _ r h => by simp [r26_Tight.l0] at h, fun _ _ _ _ _ r h => by simp [r26_Tight.j1] at h⟩
  | k + 1 => by
    obtain ⟨ih0, ih1⟩ := r26_Tight.mono_l k
    refine ⟨?_, ?_⟩
    · intro y0 y1 y2 y3 y4
      unfold r26_Tight.l0
      repeat' first
      | (with_reducible exact ih0 _ _ _ _ _)
      | (with_reducible exact ih1 _ _ _ _ _)
      | (with_reducible exact r09_Period.mono _ _)
      | (with_reducible exact r10_Next.mono _ _ _)
      | (with_reducible exact r10_Of.mono _ _ _)
      | (with_reducible exact r12_Test.mono _ _)
      | (with_reducible exact LeO.refl _)
      | (with_reducible exact LeO.none _)
      | (with_reducible refine LeO.ite ?_ ?_)
      | (with_reducible refine LeO.bind ?_ (fun _ => ?_))
      | exact ih0 _ _ _ _ _
      | exact ih1 _ _ _ _ _
      | exact r09_Period.mono _ _
      | exact r10_Next.mono _ _ _
      | exact r10_Of.mono _ _ _
      | exact r12_Test.mono _ _
      | exact LeO.none _
      | refine LeO.ite ?_ ?_
      | refine LeO.bind ?_ (fun _ => ?_)
    · intro y0 y1 y2 y3 y4
      unfold r26_Tight.j1
      repeat' first
      | (with_reducible exact ih0 _ _ _ _ _)
      | (with_reducible exact ih1 _ _ _ _ _)
      | (with_reducible exact r09_Period.mono _ _)
      | (with_reducible exact r10_Next.mono _ _ _)
      | (with_reducible exact r10_Of.mono _ _ _)
      | (with_reducible exact r12_Test.mono _ _)
      | (with_reducible exact LeO.refl _)
      | (with_reducible exact LeO.none _)
      | (with_reducible refine LeO.ite ?_ ?_)
      | (with_reducible refine LeO.bind ?_ (fun _ => ?_))
      | exact ih0 _ _ _ _ _
      | exact ih1 _ _ _ _ _
      | exact r09_Period.mono _ _
      | exact r10_Next.mono _ _ _
      | exact r10_Of.mono _ _ _
      | exact r12_Test.mono _ _
      | exact LeO.none _
      | refine LeO.ite ?_ ?_
      | refine LeO.bind ?_ (fun _ => ?_)
theorem r26_Tight.mono : ∀ a0 k, LeO (r26_Tight.f k a0) (r26_Tight.f (k + 1) a0) := by
  intro a0 k
  obtain ⟨ih0, ih1⟩ := r26_Tight.mono_l k
  unfold r26_Tight.f
  repeat' first
      | (with_reducible exact ih0 _ _ _ _ _)
      | (with_reducible exact ih1 _ _ _ _ _)
      | (with_reducible exact r09_Period.mono _ _)
      | (with_reducible exact r10_Next.mono _ _ _)
      | (with_reducible exact r10_Of.mono _ _ _)
      | (with_reducible exact r12_Test.mono _ _)
      | (with_reducible exact LeO.refl _)
      | (with_reducible exact LeO.none _)
      | (with_reducible refine LeO.ite ?_ ?_)
      | (with_reducible refine LeO.bind ?_ (fun _ => ?_))
      | exact ih0 _ _ _ _ _
      | exact ih1 _ _ _ _ _
      | exact r09_Period.mono _ _
      | exact r10_Next.mono _ _ _
      | exact r10_Of.mono _ _ _
      | exact r12_Test.mono _ _
      | exact LeO.none _
      | refine LeO.ite ?_ ?_
      | refine LeO.bind ?_ (fun _ => ?_)
set_option maxHeartbeats 8000000 in
set_option maxRecDepth 100000 in
theorem r26_Tight.calls (k : Nat) (A0 : Option Addr) (c0 : Nat) (l0 : List (S28)) (r : List Int) (w : World) (hr0 : Kd.C k28 w A0 l0.length l0) (hc0 : l0.length ≤ c0) (h : r26_Tight.f k l0 = some r) :
    Calls Try.prog 62 #[.slice A0 l0.length c0] w fun e w' => ∃ v0_ : Value, e = .returned (v0_) ∧ Kd.R (Kd.int .i64) 2 w' w.heap.size (fun _ => True) v0_ r ∧ Below w.heap.size w w' := by
  have HR0 := Aside0.mk hr0
  have HC0 := Aside0.mk hc0
  clear hr0 hc0
  have HB := Aside0.mk (Below.refl w.heap.size w)
  have H : ((r12_Test.f k l0).bind fun t210 => (if t210 = 0 then ((r09_Period.f k l0).bind fun bt211 => ((r10_Next.f k l0 0).bind fun bt213 => (r26_Tight.l0 k l0 bt211.1 ([] : List Int) bt213.1 bt213.2))) else (some ([] : List Int)))) = some r := h
  clear h
  replace H := Option.bind_eq_some_iff.mp H
  obtain ⟨t210, A20, H⟩ := H
  replace H : (if t210 = 0 then ((r09_Period.f k l0).bind fun bt211 => ((r10_Next.f k l0 0).bind fun bt213 => (r26_Tight.l0 k l0 bt211.1 ([] : List Int) bt213.1 bt213.2))) else (some ([] : List Int))) = some r := H
  have A2 := Aside0.mk A20
  clear A20
  by_cases c3 : t210 = 0
  · rw [if_pos c3] at H
    have c3b0 : (t210 == 0) = true := beq_iff_eq.mpr c3
    have c3b1 : (t210 != 0) = false := bne_eq_false_iff_eq.mpr c3
    clear c3
    replace H := Option.bind_eq_some_iff.mp H
    obtain ⟨⟨t211, t212⟩, A40, H⟩ := H
    replace H : ((r10_Next.f k l0 0).bind fun bt213 => (r26_Tight.l0 k l0 t211 ([] : List Int) bt213.1 bt213.2)) = some r := H
    have A4 := Aside0.mk A40
    clear A40
    replace H := Option.bind_eq_some_iff.mp H
    obtain ⟨⟨t213, t214⟩, A50, H⟩ := H
    replace H : (r26_Tight.l0 k l0 t211 ([] : List Int) t213 t214) = some r := H
    have A5 := Aside0.mk A50
    clear A50
    have H' := Aside0.mk H
    clear H
    go_enter Try.func62, Try.ntmps62
    go_wp2_with (first | ((with_reducible refine gate_callee (f := 22) rfl ?_); refine goesL_ (some 9) rfl rfl Try.func22 (by kernel_rfl) rfl #[.slice A0 l0.length c0] rfl (by (try simp only [List.map_toArray, List.map_cons, List.map_nil]); first | done | rfl | (simp only [List.length_drop, List.length_take]; rfl)) ?_; (with_reducible refine (r12_Test.calls k _ _ l0 t210 _ ?side1 ?side2 A2.out).mono ?_); (case side1 => repeat (first | exact HR0.out | (with_reducible refine Kd.C_alloc ?_ _) | (with_reducible refine Kd.C_drewN ?_ _) | (with_reducible refine Kd.C_drew ?_))); (case side2 => exact HC0.out); rintro e w6 ⟨rfl, hb⟩; refine ⟨_, rfl, ?_⟩; have n0_ := Aside0.mk (below_step (by repeat (first | (with_reducible first | exact HB.out | apply below_alloc | apply pw_below_drewN | apply below_drew1) | exact HB.out)) hb); clear HB; have HB := n0_; clear n0_; (try clear hb); (try clear hb2); (try clear hk); (try clear hi)) | ((with_reducible refine gate_callee (f := 25) rfl ?_); refine goesL_ (some 13) rfl rfl Try.func25 (by kernel_rfl) rfl #[.slice A0 l0.length c0] rfl (by (try simp only [List.map_toArray, List.map_cons, List.map_nil]); first | done | rfl | (simp only [List.length_drop, List.length_take]; rfl)) ?_; (with_reducible refine (r09_Period.calls k _ _ l0 t211 t212 _ ?side1 ?side2 A4.out).mono ?_); (case side1 => repeat (first | exact (Kd.C_below HR0.out HB.out) | (with_reducible refine Kd.C_alloc ?_ _) | (with_reducible refine Kd.C_drewN ?_ _) | (with_reducible refine Kd.C_drew ?_))); (case side2 => exact HC0.out); rintro e w7 ⟨rfl, hb⟩; refine ⟨_, rfl, ?_⟩; have n0_ := Aside0.mk (below_step (by repeat (first | (with_reducible first | exact HB.out | apply below_alloc | apply pw_below_drewN | apply below_drew1) | exact HB.out)) hb); clear HB; have HB := n0_; clear n0_; (try clear hb); (try clear hb2); (try clear hk); (try clear hi)) | ((with_reducible refine gate_callee (f := 86) rfl ?_); refine goesL_ (some 18) rfl rfl Try.func86 (by kernel_rfl) rfl #[.slice A0 l0.length c0, .int .i64 0] rfl (by (try simp only [List.map_toArray, List.map_cons, List.map_nil]); first | done | rfl | (simp only [List.length_drop, List.length_take]; rfl)) ?_; (with_reducible refine (r10_Next.calls k _ _ l0 0 t213 t214 _ ?side1 ?side2 A5.out).mono ?_); (case side1 => repeat (first | exact (Kd.C_below HR0.out HB.out) | (with_reducible refine Kd.C_alloc ?_ _) | (with_reducible refine Kd.C_drewN ?_ _) | (with_reducible refine Kd.C_drew ?_))); (case side2 => exact HC0.out); rintro e w8 ⟨rfl, hb⟩; refine ⟨_, rfl, ?_⟩; have n0_ := Aside0.mk (below_step (by repeat (first | (with_reducible first | exact HB.out | apply below_alloc | apply pw_below_drewN | apply below_drew1) | exact HB.out)) hb); clear HB; have HB := n0_; clear n0_; (try clear hb); (try clear hb2); (try clear hk); (try clear hi)))
    go_loopg [5, 6, 7] k (fun kq v5 v6 v7 w' => ∃ (x5_1 : List Int) (x6_1 : Int) (x7_1 : Bool), v6 = .int .i64 x6_1 ∧ v7 = .bool x7_1 ∧ Aside0 (r26_Tight.l0 kq l0 t211 x5_1 x6_1 x7_1 = some r) ∧ Aside0 (kq ≤ k) ∧ Aside0 (Kd.R (Kd.int .i64) 2 w' w.heap.size (fun _ => True) v5 x5_1) ∧ Aside0 (Below w.heap.size w w'))
    case atStart => exact ⟨(([] : List Int)), (t213), (t214), (by first | rfl | (simp; done) | (simp [*]; done)), (by first | rfl | (simp; done) | (simp [*]; done)), H', ⟨Nat.le_refl _⟩, ⟨by first | exact Kd.R_nil _ _ _ _ _ | exact Kd.N_nil _ _ _ _ _ | exact Kd.V_nil _ _ _ _ _ | exact Kd.Q_nil _ _ _ _ _ | exact Kd.S_nil _ _ _ _ _⟩, ⟨by repeat (first | (with_reducible first | exact HB.out | apply below_alloc | apply pw_below_drewN | apply below_drew1) | exact HB.out)⟩⟩
    case round =>
      clear H'
      try clear c2
      try clear p2
      try clear c3
      try clear c3b0
      try clear c3b1
      try clear c6
      try clear c8
      obtain ⟨x5_1, x6_1, x7_1, rfl, rfl, HA, HK1, HO_5, HB⟩ := hrel
      cases gk with
      | zero => exact absurd HA.out (by simp [r26_Tight.l0])
      | succ k1 =>
        have H := HA.out
        clear HA
        simp only [r26_Tight.l0] at H
        have HC9 := Aside0.mk H
        clear H
        go_upto_region 6 with (fail)
        go_cut [31] (fun v31 wc => ∃ (kq : Nat) (x31_8 : Bool), v31 = .bool x31_8 ∧ Aside0 (r26_Tight.j1 kq l0 t211 x5_1 x6_1 x31_8 = some r) ∧ Aside0 (kq ≤ k1) ∧ Aside0 (Kd.R (Kd.int .i64) 2 wc w.heap.size (fun _ => True) u5 x5_1) ∧ Aside0 (Below w.heap.size w wc))
        case first =>
          have H := HC9.out
          clear HC9
          by_cases c10 : x7_1 = true
          · subst c10
            have H1 : (if x6_1 ≤ t211 then (r26_Tight.j1 k1 l0 t211 x5_1 x6_1 (decide ((x5_1.length : Int) < 4096))) else (r26_Tight.j1 k1 l0 t211 x5_1 x6_1 false)) = some r := by rw [if_pos rfl] at H; exact H
            clear H
            have H := H1
            clear H1
            by_cases c11 : x6_1 ≤ t211
            · rw [if_pos c11] at H
              have c11b0 : decide (x6_1 ≤ t211) = true := decide_eq_true c11
              clear c11
              (first | rw [c11b0] | (simp only [i64_w, i32_w]; rw [c11b0]) | skip)
              have H' := Aside0.mk H
              clear H
              obtain ⟨Ao12, co12, eo12⟩ := Kd.R_slice HO_5.out
              subst eo12
              go_wp2
              go_meet
              case rel => exact ⟨_, (decide ((x5_1.length : Int) < 4096)), (by first | rfl | (simp; done) | (simp [*]; done)), H', ⟨by have := HK1.out; first | omega | exact Nat.le_refl _⟩, ⟨by (with_reducible repeat (first | apply Kd.R_alloc | apply Kd.R_drewN | apply Kd.R_drew)); exact HO_5.out⟩, ⟨by repeat (first | (with_reducible first | exact HB.out | apply below_alloc | apply pw_below_drewN | apply below_drew1) | exact HB.out)⟩⟩
            · rw [if_neg c11] at H
              have c11b0 : decide (x6_1 ≤ t211) = false := decide_eq_false c11
              clear c11
              (first | rw [c11b0] | (simp only [i64_w, i32_w]; rw [c11b0]) | skip)
              have H' := Aside0.mk H
              clear H
              go_wp2
              go_meet
              case rel => exact ⟨_, (false), (by first | rfl | (simp; done) | (simp [*]; done)), H', ⟨by have := HK1.out; first | omega | exact Nat.le_refl _⟩, ⟨by (with_reducible repeat (first | apply Kd.R_alloc | apply Kd.R_drewN | apply Kd.R_drew)); exact HO_5.out⟩, ⟨by repeat (first | (with_reducible first | exact HB.out | apply below_alloc | apply pw_below_drewN | apply below_drew1) | exact HB.out)⟩⟩
          · replace c10 := Bool.eq_false_iff.mpr c10
            subst c10
            have H1 : (r26_Tight.j1 k1 l0 t211 x5_1 x6_1 false) = some r := by rw [if_neg (show ¬ (false = true) by decide)] at H; exact H
            clear H
            have H := H1
            clear H1
            have H' := Aside0.mk H
            clear H
            go_wp2
            go_meet
            case rel => exact ⟨_, (false), (by first | rfl | (simp; done) | (simp [*]; done)), H', ⟨by have := HK1.out; first | omega | exact Nat.le_refl _⟩, ⟨by (with_reducible repeat (first | apply Kd.R_alloc | apply Kd.R_drewN | apply Kd.R_drew)); exact HO_5.out⟩, ⟨by repeat (first | (with_reducible first | exact HB.out | apply below_alloc | apply pw_below_drewN | apply below_drew1) | exact HB.out)⟩⟩
        case rest =>
          clear HC9
          try clear c1
          try clear c2
          try clear p2
          try clear c3
          try clear c3b0
          try clear c3b1
          try clear c6
          try clear c8
          try clear c10
          try clear c11
          try clear c11b0
          try clear p2
          obtain ⟨kq, x31_8, rfl, HA, HJ8, HO_5, HB⟩ := hcut
          cases kq with
          | zero => exact absurd HA.out (by simp [r26_Tight.j1])
          | succ kj8 =>
            have H := HA.out
            clear HA
            simp only [r26_Tight.j1] at H
            by_cases c13 : x31_8 = true
            · subst c13
              have H1 : ((r10_Of.f kj8 l0 x6_1).bind fun t215 => (if t215 = x6_1 then (if x5_1.length < 17592186044416 then ((r10_Next.f kj8 l0 x6_1).bind fun bt219 => (r26_Tight.l0 kj8 l0 t211 (x5_1 ++ [x6_1]) bt219.1 bt219.2)) else (none)) else ((r10_Next.f kj8 l0 x6_1).bind fun bt221 => (r26_Tight.l0 kj8 l0 t211 x5_1 bt221.1 bt221.2)))) = some r := by rw [if_pos rfl] at H; exact H
              clear H
              have H := H1
              clear H1
              replace H := Option.bind_eq_some_iff.mp H
              obtain ⟨t215, A140, H⟩ := H
              replace H : (if t215 = x6_1 then (if x5_1.length < 17592186044416 then ((r10_Next.f kj8 l0 x6_1).bind fun bt219 => (r26_Tight.l0 kj8 l0 t211 (x5_1 ++ [x6_1]) bt219.1 bt219.2)) else (none)) else ((r10_Next.f kj8 l0 x6_1).bind fun bt221 => (r26_Tight.l0 kj8 l0 t211 x5_1 bt221.1 bt221.2))) = some r := H
              have A14 := Aside0.mk A140
              clear A140
              by_cases c15 : t215 = x6_1
              · rw [if_pos c15] at H
                have c15b0 : (t215 == x6_1) = true := beq_iff_eq.mpr c15
                have c15b1 : (t215 != x6_1) = false := bne_eq_false_iff_eq.mpr c15
                clear c15
                by_cases c16 : x5_1.length < 17592186044416
                · rw [if_pos c16] at H
                  have LMc16 := Aside0.mk c16
                  clear c16
                  obtain ⟨y216, hy216⟩ : ∃ y_ : List Int, y_ = (x5_1 ++ [x6_1]) := ⟨_, rfl⟩
                  replace H : ((r10_Next.f kj8 l0 x6_1).bind fun bt219 => (r26_Tight.l0 kj8 l0 t211 y216 bt219.1 bt219.2)) = some r := by first | (rw [hy216]; with_reducible exact H) | (have H2_ := (Option.bind_some _ _).symm.trans H; rw [hy216]; with_reducible exact H2_) | (have H2_ := (Option.bind_some _ _).symm.trans H; with_reducible exact H2_) | with_reducible exact H | (rw [hy216]; exact H) | exact H
                  have Ny216 := Aside0.mk hy216
                  clear hy216
                  replace H := Option.bind_eq_some_iff.mp H
                  obtain ⟨⟨t219, t220⟩, A170, H⟩ := H
                  replace H : (r26_Tight.l0 kj8 l0 t211 y216 t219 t220) = some r := H
                  have A17 := Aside0.mk A170
                  clear A170
                  have H' := Aside0.mk H
                  clear H
                  go_wp2_with (first | ((with_reducible refine gate_callee (f := 26) rfl ?_); refine goesL_ (some 34) rfl rfl Try.func26 (by kernel_rfl) rfl #[.slice A0 l0.length c0, .int .i64 x6_1] rfl (by (try simp only [List.map_toArray, List.map_cons, List.map_nil]); first | done | rfl | (simp only [List.length_drop, List.length_take]; rfl)) ?_; (with_reducible refine (r10_Of.calls kj8 _ _ l0 x6_1 t215 _ ?side1 ?side2 A14.out).mono ?_); (case side1 => repeat (first | exact (Kd.C_below HR0.out HB.out) | (with_reducible refine Kd.C_alloc ?_ _) | (with_reducible refine Kd.C_drewN ?_ _) | (with_reducible refine Kd.C_drew ?_))); (case side2 => exact HC0.out); rintro e w18 ⟨rfl, hb⟩; refine ⟨_, rfl, ?_⟩; have n0_ := Aside0.mk (Kd.R_below (by (with_reducible repeat (first | apply Kd.R_alloc | apply Kd.R_drewN | apply Kd.R_drew)); exact HO_5.out) hb); have n1_ := Aside0.mk (below_step (by repeat (first | (with_reducible first | exact HB.out | apply below_alloc | apply pw_below_drewN | apply below_drew1) | exact HB.out)) hb); clear HO_5; clear HB; have HO_5 := n0_; have HB := n1_; clear n0_ n1_; (try clear hb); (try clear hb2); (try clear hk); (try clear hi)) | ((with_reducible refine gate_builtin (b := .append) (xs := #[.tmp 37, .tmp 39]) rfl ?_); (try (refine gate_guard (by rfl) ?_; dsimp only)); at_builtin; refine Kd.R_append (Kd.int .i64) (w0 := w) w.heap.size rfl (.tmp 37) (.tmp 39) 43 2 (.int .i64 0) 8 rfl Try.underlying43 info2 rfl (by decide) (by omega) u5 x5_1 x6_1 [.int .i64 x6_1] (fun _ => True) (fun _ => False) rfl rfl ?aP (fun _ hk => hk.elim) ?aF ?aO ?aB ?aS ?aL ?_; (case aP => exact rfl); (case aB => exact (by repeat (first | (with_reducible first | exact HB.out | apply below_alloc | apply pw_below_drewN | apply below_drew1) | exact HB.out))); (case aF => exact (fun _ _ => trivial)); (case aO => exact (by (with_reducible repeat (first | apply Kd.R_alloc | apply Kd.R_drewN | apply Kd.R_drew)); exact HO_5.out)); (case aS => exact (below_size (by repeat (first | (with_reducible first | exact HB.out | apply below_alloc | apply pw_below_drewN | apply below_drew1) | exact HB.out)))); (case aL => have := LMc16.out; omega); intro v217 w19 ho hb hg hat; rw [← Ny216.out] at ho; have n0_ := Aside0.mk (hb); have n1_ := Aside0.mk (ho); clear HB; clear HO_5; have HB := n0_; have HO218 := n1_; clear n0_ n1_; clear ho hb hg hat) | ((with_reducible refine gate_callee (f := 86) rfl ?_); refine goesL_ (some 44) rfl rfl Try.func86 (by kernel_rfl) rfl #[.slice A0 l0.length c0, .int .i64 x6_1] rfl (by (try simp only [List.map_toArray, List.map_cons, List.map_nil]); first | done | rfl | (simp only [List.length_drop, List.length_take]; rfl)) ?_; (with_reducible refine (r10_Next.calls kj8 _ _ l0 x6_1 t219 t220 _ ?side1 ?side2 A17.out).mono ?_); (case side1 => repeat (first | exact (Kd.C_below HR0.out HB.out) | (with_reducible refine Kd.C_alloc ?_ _) | (with_reducible refine Kd.C_drewN ?_ _) | (with_reducible refine Kd.C_drew ?_))); (case side2 => exact HC0.out); rintro e w20 ⟨rfl, hb⟩; refine ⟨_, rfl, ?_⟩; have n0_ := Aside0.mk (Kd.R_below (by (with_reducible repeat (first | apply Kd.R_alloc | apply Kd.R_drewN | apply Kd.R_drew)); exact HO218.out) hb); have n1_ := Aside0.mk (below_step (by repeat (first | (with_reducible first | exact HB.out | apply below_alloc | apply pw_below_drewN | apply below_drew1) | exact HB.out)) hb); clear HO218; clear HB; have HO218 := n0_; have HB := n1_; clear n0_ n1_; (try clear hb); (try clear hb2); (try clear hk); (try clear hi)))
                  go_roundg kj8
                  case measure => have := HK1.out; have := HJ8.out; omega
                  case rel => exact ⟨(y216), (t219), (t220), (by first | rfl | (simp; done) | (simp [*]; done)), (by first | rfl | (simp; done) | (simp [*]; done)), H', ⟨by have := HK1.out; have := HJ8.out; omega⟩, ⟨by (with_reducible repeat (first | apply Kd.R_alloc | apply Kd.R_drewN | apply Kd.R_drew)); exact HO218.out⟩, ⟨by repeat (first | (with_reducible first | exact HB.out | apply below_alloc | apply pw_below_drewN | apply below_drew1) | exact HB.out)⟩⟩
                · rw [if_neg c16] at H
                  exact absurd H (by simp)
              · rw [if_neg c15] at H
                have c15b0 : (t215 == x6_1) = false := beq_eq_false_iff_ne.mpr c15
                have c15b1 : (t215 != x6_1) = true := bne_iff_ne.mpr c15
                replace H := Option.bind_eq_some_iff.mp H
                obtain ⟨⟨t221, t222⟩, A210, H⟩ := H
                replace H : (r26_Tight.l0 kj8 l0 t211 x5_1 t221 t222) = some r := H
                have A21 := Aside0.mk A210
                clear A210
                have H' := Aside0.mk H
                clear H
                go_wp2_with (first | ((with_reducible refine gate_callee (f := 26) rfl ?_); refine goesL_ (some 34) rfl rfl Try.func26 (by kernel_rfl) rfl #[.slice A0 l0.length c0, .int .i64 x6_1] rfl (by (try simp only [List.map_toArray, List.map_cons, List.map_nil]); first | done | rfl | (simp only [List.length_drop, List.length_take]; rfl)) ?_; (with_reducible refine (r10_Of.calls kj8 _ _ l0 x6_1 t215 _ ?side1 ?side2 A14.out).mono ?_); (case side1 => repeat (first | exact (Kd.C_below HR0.out HB.out) | (with_reducible refine Kd.C_alloc ?_ _) | (with_reducible refine Kd.C_drewN ?_ _) | (with_reducible refine Kd.C_drew ?_))); (case side2 => exact HC0.out); rintro e w22 ⟨rfl, hb⟩; refine ⟨_, rfl, ?_⟩; have n0_ := Aside0.mk (Kd.R_below (by (with_reducible repeat (first | apply Kd.R_alloc | apply Kd.R_drewN | apply Kd.R_drew)); exact HO_5.out) hb); have n1_ := Aside0.mk (below_step (by repeat (first | (with_reducible first | exact HB.out | apply below_alloc | apply pw_below_drewN | apply below_drew1) | exact HB.out)) hb); clear HO_5; clear HB; have HO_5 := n0_; have HB := n1_; clear n0_ n1_; (try clear hb); (try clear hb2); (try clear hk); (try clear hi)) | ((with_reducible refine gate_callee (f := 86) rfl ?_); refine goesL_ (some 44) rfl rfl Try.func86 (by kernel_rfl) rfl #[.slice A0 l0.length c0, .int .i64 x6_1] rfl (by (try simp only [List.map_toArray, List.map_cons, List.map_nil]); first | done | rfl | (simp only [List.length_drop, List.length_take]; rfl)) ?_; (with_reducible refine (r10_Next.calls kj8 _ _ l0 x6_1 t221 t222 _ ?side1 ?side2 A21.out).mono ?_); (case side1 => repeat (first | exact (Kd.C_below HR0.out HB.out) | (with_reducible refine Kd.C_alloc ?_ _) | (with_reducible refine Kd.C_drewN ?_ _) | (with_reducible refine Kd.C_drew ?_))); (case side2 => exact HC0.out); rintro e w23 ⟨rfl, hb⟩; refine ⟨_, rfl, ?_⟩; have n0_ := Aside0.mk (Kd.R_below (by (with_reducible repeat (first | apply Kd.R_alloc | apply Kd.R_drewN | apply Kd.R_drew)); exact HO_5.out) hb); have n1_ := Aside0.mk (below_step (by repeat (first | (with_reducible first | exact HB.out | apply below_alloc | apply pw_below_drewN | apply below_drew1) | exact HB.out)) hb); clear HO_5; clear HB; have HO_5 := n0_; have HB := n1_; clear n0_ n1_; (try clear hb); (try clear hb2); (try clear hk); (try clear hi)))
                go_roundg kj8
                case measure => have := HK1.out; have := HJ8.out; omega
                case rel => exact ⟨(x5_1), (t221), (t222), (by first | rfl | (simp; done) | (simp [*]; done)), (by first | rfl | (simp; done) | (simp [*]; done)), H', ⟨by have := HK1.out; have := HJ8.out; omega⟩, ⟨by (with_reducible repeat (first | apply Kd.R_alloc | apply Kd.R_drewN | apply Kd.R_drew)); exact HO_5.out⟩, ⟨by repeat (first | (with_reducible first | exact HB.out | apply below_alloc | apply pw_below_drewN | apply below_drew1) | exact HB.out)⟩⟩
            · replace c13 := Bool.eq_false_iff.mpr c13
              subst c13
              have H1 : (some x5_1) = some r := by rw [if_neg (show ¬ (false = true) by decide)] at H; exact H
              clear H
              have H := H1
              clear H1
              obtain rfl := Option.some.inj H
              go_wp2
              go_ret
              exact ⟨_, by first | rfl | (simp [errW_none, errW_some] <;> rfl) | (simp [*, errW_none, errW_some] <;> rfl), by (with_reducible repeat (first | apply Kd.R_alloc | apply Kd.R_drewN | apply Kd.R_drew)); exact HO_5.out, by repeat (first | (with_reducible first | exact HB.out | apply below_alloc | apply pw_below_drewN | apply below_drew1) | exact HB.out)⟩
  · rw [if_neg c3] at H
    have c3b0 : (t210 == 0) = false := beq_eq_false_iff_ne.mpr c3
    have c3b1 : (t210 != 0) = true := bne_iff_ne.mpr c3
    obtain rfl := Option.some.inj H
    go_enter Try.func62, Try.ntmps62
    go_wp2_with (first | ((with_reducible refine gate_callee (f := 22) rfl ?_); refine goesL_ (some 9) rfl rfl Try.func22 (by kernel_rfl) rfl #[.slice A0 l0.length c0] rfl (by (try simp only [List.map_toArray, List.map_cons, List.map_nil]); first | done | rfl | (simp only [List.length_drop, List.length_take]; rfl)) ?_; (with_reducible refine (r12_Test.calls k _ _ l0 t210 _ ?side1 ?side2 A2.out).mono ?_); (case side1 => repeat (first | exact HR0.out | (with_reducible refine Kd.C_alloc ?_ _) | (with_reducible refine Kd.C_drewN ?_ _) | (with_reducible refine Kd.C_drew ?_))); (case side2 => exact HC0.out); rintro e w24 ⟨rfl, hb⟩; refine ⟨_, rfl, ?_⟩; have n0_ := Aside0.mk (below_step (by repeat (first | (with_reducible first | exact HB.out | apply below_alloc | apply pw_below_drewN | apply below_drew1) | exact HB.out)) hb); clear HB; have HB := n0_; clear n0_; (try clear hb); (try clear hb2); (try clear hk); (try clear hi)))
    go_ret
    exact ⟨_, by first | rfl | (simp [errW_none, errW_some] <;> rfl) | (simp [*, errW_none, errW_some] <;> rfl), by first | exact Kd.R_nil _ _ _ _ _ | exact Kd.N_nil _ _ _ _ _ | exact Kd.V_nil _ _ _ _ _ | exact Kd.Q_nil _ _ _ _ _ | exact Kd.S_nil _ _ _ _ _, by repeat (first | (with_reducible first | exact HB.out | apply below_alloc | apply pw_below_drewN | apply below_drew1) | exact HB.out)⟩

/-! ### r26_may: function 87 -/
def r26_may.f (k : Nat) (l0 : List (S28)) (a1 : Int) : Option (Bool) := if a1 ≥ 0 then (if a1 < (l0.length : Int) then ((r12_Test.f k l0).bind fun t223 => (some (t223 == 0))) else (some false)) else (some false)
theorem r26_may.mono : ∀ a0 a1 k, LeO (r26_may.f k a0 a1) (r26_may.f (k + 1) a0 a1) := by
  intro a0 a1 k
  unfold r26_may.f
  repeat' first
      | (with_reducible exact r12_Test.mono _ _)
      | (with_reducible exact LeO.refl _)
      | (with_reducible exact LeO.none _)
      | (with_reducible refine LeO.ite ?_ ?_)
      | (with_reducible refine LeO.bind ?_ (fun _ => ?_))
      | exact r12_Test.mono _ _
      | exact LeO.none _
      | refine LeO.ite ?_ ?_
      | refine LeO.bind ?_ (fun _ => ?_)
set_option maxHeartbeats 8000000 in
set_option maxRecDepth 100000 in
theorem r26_may.calls (k : Nat) (A0 : Option Addr) (c0 : Nat) (l0 : List (S28)) (a1 : Int) (r : Bool) (w : World) (hr0 : Kd.C k28 w A0 l0.length l0) (hc0 : l0.length ≤ c0) (h : r26_may.f k l0 a1 = some r) :
    Calls Try.prog 87 #[.slice A0 l0.length c0, .int .i64 a1] w fun e w' => e = .returned (.bool r) ∧ Below w.heap.size w w' := by
  have HR0 := Aside0.mk hr0
  have HC0 := Aside0.mk hc0
  clear hr0 hc0
  have HB := Aside0.mk (Below.refl w.heap.size w)
  have H : (if a1 ≥ 0 then (if a1 < (l0.length : Int) then ((r12_Test.f k l0).bind fun t223 => (some (t223 == 0))) else (some false)) else (some false)) = some r := h
  clear h
  by_cases c3 : a1 ≥ 0
  · rw [if_pos c3] at H
    have c3b0 : decide (0 ≤ a1) = true := decide_eq_true c3
    clear c3
    by_cases c4 : a1 < (l0.length : Int)
    · rw [if_pos c4] at H
      have c4b0 : decide (a1 < (l0.length : Int)) = true := decide_eq_true c4
      clear c4
      replace H := Option.bind_eq_some_iff.mp H
      obtain ⟨t223, A50, H⟩ := H
      replace H : (some (t223 == 0)) = some r := H
      have A5 := Aside0.mk A50
      clear A50
      obtain rfl := Option.some.inj H
      go_enter Try.func87, Try.ntmps87
      go_wp2_with (first | (go_at_call 22; (with_reducible refine (r12_Test.calls k _ _ l0 t223 _ ?side1 ?side2 A5.out).mono ?_); (case side1 => repeat (first | exact HR0.out | (with_reducible refine Kd.C_alloc ?_ _) | (with_reducible refine Kd.C_drewN ?_ _) | (with_reducible refine Kd.C_drew ?_))); (case side2 => exact HC0.out); rintro e w6 ⟨rfl, hb⟩; have n0_ := Aside0.mk (below_step (by repeat (first | (with_reducible first | exact HB.out | apply below_alloc | apply pw_below_drewN | apply below_drew1) | exact HB.out)) hb); clear HB; have HB := n0_; clear n0_; (try clear hb); (try clear hb2); (try clear hk); (try clear hi)))
      go_ret
      exact ⟨by first | rfl | (simp [errW_none, errW_some] <;> rfl) | (simp [*, errW_none, errW_some] <;> rfl), by repeat (first | (with_reducible first | exact HB.out | apply below_alloc | apply pw_below_drewN | apply below_drew1) | exact HB.out)⟩
    · rw [if_neg c4] at H
      have c4b0 : decide (a1 < (l0.length : Int)) = false := decide_eq_false c4
      clear c4
      obtain rfl := Option.some.inj H
      go_enter Try.func87, Try.ntmps87
      go_wp2
      go_ret
      exact ⟨by first | rfl | (simp [errW_none, errW_some] <;> rfl) | (simp [*, errW_none, errW_some] <;> rfl), by repeat (first | (with_reducible first | exact HB.out | apply below_alloc | apply pw_below_drewN | apply below_drew1) | exact HB.out)⟩
  · rw [if_neg c3] at H
    have c3b0 : decide (0 ≤ a1) = false := decide_eq_false c3
    clear c3
    obtain rfl := Option.some.inj H
    go_enter Try.func87, Try.ntmps87
    go_wp2
    go_ret
    exact ⟨by first | rfl | (simp [errW_none, errW_some] <;> rfl) | (simp [*, errW_none, errW_some] <;> rfl), by repeat (first | (with_reducible first | exact HB.out | apply below_alloc | apply pw_below_drewN | apply below_drew1) | exact HB.out)⟩

/-! ### r26_with: function 88 -/
def r26_with.f (l0 : List (S28)) (a1 : Int) (a2_0 : Int) (a2_1 : Int) (a2_2 : Int) (a2_3 : Int) (a2_4 : Int) : Option ((List (S28))) := (some (([] : List (S28)) : List (S28))).bind fun y225 => (if y225.length + l0.length < 3518437208883 then ((some (y225 ++ l0 : List (S28))).bind fun y228 => (if 0 ≤ a1 then (if a1 < (y228.length : Int) then (some (y228.set (a1 : Int).toNat (⟨a2_0, a2_1, a2_2, a2_3, a2_4⟩ : S28))) else (none)) else (none))) else (none))
set_option maxHeartbeats 8000000 in
set_option maxRecDepth 100000 in
theorem r26_with.calls (A0 : Option Addr) (c0 : Nat) (l0 : List (S28)) (a1 : Int) (a2_0 : Int) (a2_1 : Int) (a2_2 : Int) (a2_3 : Int) (a2_4 : Int) (r : List (S28)) (w : World) (hr0 : Kd.C k28 w A0 l0.length l0) (hc0 : l0.length ≤ c0) (h : r26_with.f l0 a1 a2_0 a2_1 a2_2 a2_3 a2_4 = some r) :
    Calls Try.prog 88 #[.slice A0 l0.length c0, .int .i64 a1, .agg #[.int .i64 a2_0, .int .i64 a2_1, .int .i64 a2_2, .int .i64 a2_3, .int .i64 a2_4]] w fun e w' => ∃ v0_ : Value, e = .returned (v0_) ∧ Kd.R k28 28 w' w.heap.size (fun _ => True) v0_ r ∧ Below w.heap.size w w' := by
  have hu28 := Try.underlying28
  have HR0 := Aside0.mk hr0
  have HC0 := Aside0.mk hc0
  clear hr0 hc0
  have HB := Aside0.mk (Below.refl w.heap.size w)
  have H : ((some (([] : List (S28)) : List (S28))).bind fun y225 => (if y225.length + l0.length < 3518437208883 then ((some (y225 ++ l0 : List (S28))).bind fun y228 => (if 0 ≤ a1 then (if a1 < (y228.length : Int) then (some (y228.set (a1 : Int).toNat (⟨a2_0, a2_1, a2_2, a2_3, a2_4⟩ : S28))) else (none)) else (none))) else (none))) = some r := h
  clear h
  obtain ⟨y225, hy225⟩ : ∃ y_ : List (S28), y_ = (([] : List (S28))) := ⟨_, rfl⟩
  replace H : (if y225.length + l0.length < 3518437208883 then ((some (y225 ++ l0 : List (S28))).bind fun y228 => (if 0 ≤ a1 then (if a1 < (y228.length : Int) then (some (y228.set (a1 : Int).toNat (⟨a2_0, a2_1, a2_2, a2_3, a2_4⟩ : S28))) else (none)) else (none))) else (none)) = some r := by first | (rw [hy225]; with_reducible exact H) | (have H2_ := (Option.bind_some _ _).symm.trans H; rw [hy225]; with_reducible exact H2_) | (have H2_ := (Option.bind_some _ _).symm.trans H; with_reducible exact H2_) | with_reducible exact H | (rw [hy225]; exact H) | exact H
  have Ny225 := Aside0.mk hy225
  clear hy225
  by_cases c4 : y225.length + l0.length < 3518437208883
  · rw [if_pos c4] at H
    have LMc4 := Aside0.mk c4
    clear c4
    obtain ⟨y228, hy228⟩ : ∃ y_ : List (S28), y_ = (y225 ++ l0) := ⟨_, rfl⟩
    replace H : (if 0 ≤ a1 then (if a1 < (y228.length : Int) then (some (y228.set (a1 : Int).toNat (⟨a2_0, a2_1, a2_2, a2_3, a2_4⟩ : S28))) else (none)) else (none)) = some r := by first | (rw [hy228]; with_reducible exact H) | (have H2_ := (Option.bind_some _ _).symm.trans H; rw [hy228]; with_reducible exact H2_) | (have H2_ := (Option.bind_some _ _).symm.trans H; with_reducible exact H2_) | with_reducible exact H | (rw [hy228]; exact H) | exact H
    have Ny228 := Aside0.mk hy228
    clear hy228
    by_cases c5 : 0 ≤ a1
    · rw [if_pos c5] at H
      have c5b0 : decide (0 ≤ a1) = true := decide_eq_true c5
      clear c5
      by_cases c6 : a1 < (y228.length : Int)
      · rw [if_pos c6] at H
        have c6b0 : decide (a1 < (y228.length : Int)) = true := decide_eq_true c6
        clear c6
        obtain ⟨y231, hy231⟩ : ∃ y_ : List (S28), y_ = (y228.set (a1 : Int).toNat (⟨a2_0, a2_1, a2_2, a2_3, a2_4⟩ : S28)) := ⟨_, rfl⟩
        replace H : (some y231) = some r := by first | (rw [hy231]; with_reducible exact H) | (have H2_ := (Option.bind_some _ _).symm.trans H; rw [hy231]; with_reducible exact H2_) | (have H2_ := (Option.bind_some _ _).symm.trans H; with_reducible exact H2_) | with_reducible exact H | (rw [hy231]; exact H) | exact H
        have Ny231 := Aside0.mk hy231
        clear hy231
        obtain rfl := Option.some.inj H
        go_enter Try.func88, Try.ntmps88
        go_wp2_with (first | ((with_reducible refine gate_dst (N := 5) rfl ?_); refine box_event ?hg (N := 5) ?hd (cs := #[.int .i64 a2_0, .int .i64 a2_1, .int .i64 a2_2, .int .i64 a2_3, .int .i64 a2_4]) (t := 28) ?hr ?_; (case hd => rfl); (case hg => rfl); (case hr => first | (go_simp; done) | (go_simp; rfl)); intro gb224 hg w8 hbox hb; have n0_ := Aside0.mk (below_step (by repeat (first | (with_reducible first | exact HB.out | apply below_alloc | apply pw_below_drewN | apply below_drew1) | exact HB.out)) hb); have n1_ := Aside0.mk (hbox); have n2_ := Aside0.mk ((by rw [hg]; exact (below_size (by repeat (first | (with_reducible first | exact HB.out | apply below_alloc | apply pw_below_drewN | apply below_drew1) | exact HB.out))) : w.heap.size ≤ gb224)); have n3_ := Aside0.mk ((by rw [hg]; exact (below_size (by repeat (first | (with_reducible first | exact HB.out | apply below_alloc | apply pw_below_drewN | apply below_drew1) | exact HB.out))) : w.heap.size ≤ gb224)); clear HB; have HB := n0_; have BK224 := n1_; have GW224 := n2_; have GE224 := n3_; clear n0_ n1_ n2_ n3_; clear hb hbox hg) | ((with_reducible refine gate_dst (N := 8) rfl ?_); refine Kd.R_lit k28 _ 28 ?hg (N := 8) ?hd (xs := ([] : List (S28))) (inner := []) (ok := fun _ => True) (okp := fun _ => True) ?hr ?hp (fun _ hk => hk) trivial (Below.refl _ _) (Nat.le_refl _) (by simp) ?_; (case hd => rfl); (case hg => rfl); (case hr => first | (go_simp; done) | (go_simp; rfl)); (case hp => exact (Reps.none _ _)); intro v226 w9 ho10 hb hg_ hnew_; clear hg_ hnew_; (first | rw [← Ny225.out] at ho10 | (simp only [Int.reduceToNat] at ho10; rw [← Ny225.out] at ho10)); have n0_ := Aside0.mk (Kd.R_lower (Kd.R_newB ho10 (g := gb224) (o := .cells #[.int .i64 a2_0, .int .i64 a2_1, .int .i64 a2_2, .int .i64 a2_3, .int .i64 a2_4] 28 (0, 0)) (by (with_reducible repeat (first | refine blk_drewN ?_ _ | refine blk_drew ?_ | refine blk_alloc ?_ _)); exact BK224.out)) (below_size (by repeat (first | (with_reducible first | exact HB.out | apply below_alloc | apply pw_below_drewN | apply below_drew1 | refine below_set ?_ GE224.out) | exact HB.out)))); have n1_ := Aside0.mk (blk_below (g := gb224) (o := .cells #[.int .i64 a2_0, .int .i64 a2_1, .int .i64 a2_2, .int .i64 a2_3, .int .i64 a2_4] 28 (0, 0)) (by (with_reducible repeat (first | refine blk_drewN ?_ _ | refine blk_drew ?_ | refine blk_alloc ?_ _)); exact BK224.out) hb); have n2_ := Aside0.mk (below_step (by repeat (first | (with_reducible first | exact HB.out | apply below_alloc | apply pw_below_drewN | apply below_drew1 | refine below_set ?_ GE224.out) | exact HB.out)) hb); clear BK224; clear HB; have HO227 := n0_; have BK224 := n1_; have HB := n2_; clear n0_ n1_ n2_; clear hb ho10) | ((with_reducible refine gate_builtin (b := .append) (xs := #[.tmp 8, .tmp 9]) rfl ?_); at_builtin; refine Kd.R_append_rows k28 (w0 := w) w.heap.size rfl (.tmp 8) (.tmp 9) 24 28 (.agg #[(.int .i64 0), (.int .i64 0), (.int .i64 0), (.int .i64 0), (.int .i64 0)]) 40 rfl Try.underlying24 info28 rfl (by decide) (by omega) v226 y225 l0 _ _ _ (fun k_ => k_ ≠ gb224) (fun _ => False) rfl rfl ?aO ?aR (fun _ _ h => h) (fun _ h => h.elim) ?aF ?aB ?aS ?aL ?_; (case aR => repeat (first | exact (Kd.C_below HR0.out HB.out) | (with_reducible refine Kd.C_alloc ?_ _) | (with_reducible refine Kd.C_drewN ?_ _) | (with_reducible refine Kd.C_drew ?_))); (case aB => exact (by repeat (first | (with_reducible first | exact HB.out | apply below_alloc | apply pw_below_drewN | apply below_drew1 | refine below_set ?_ GE224.out) | exact HB.out))); (case aF => exact (fun k_ hk => Kd.freshB (g := gb224) (o := .cells #[.int .i64 a2_0, .int .i64 a2_1, .int .i64 a2_2, .int .i64 a2_3, .int .i64 a2_4] 28 (0, 0)) (by (with_reducible repeat (first | refine blk_drewN ?_ _ | refine blk_drew ?_ | refine blk_alloc ?_ _)); exact BK224.out) k_ hk)); (case aO => exact (by (with_reducible repeat (first | apply Kd.R_alloc | apply Kd.R_drewN | apply Kd.R_drew)); exact Kd.R_mono HO227.out (fun _ hk => hk.2))); (case aS => exact (below_size (by repeat (first | (with_reducible first | exact HB.out | apply below_alloc | apply pw_below_drewN | apply below_drew1 | refine below_set ?_ GE224.out) | exact HB.out)))); (case aL => have := LMc4.out; omega); intro v229 w11 ho hb hg hat; rw [← Ny228.out] at ho; have n0_ := Aside0.mk (blk_grown (g := gb224) (o := .cells #[.int .i64 a2_0, .int .i64 a2_1, .int .i64 a2_2, .int .i64 a2_3, .int .i64 a2_4] 28 (0, 0)) (by (with_reducible repeat (first | refine blk_drewN ?_ _ | refine blk_drew ?_ | refine blk_alloc ?_ _)); exact BK224.out) hg (Kd.R_away HO227.out (fun _ hk => hk.2))); have n1_ := Aside0.mk (hb); have n2_ := Aside0.mk (ho); clear BK224; clear HB; clear HO227; have BK224 := n0_; have HB := n1_; have HO230 := n2_; clear n0_ n1_ n2_; clear ho hb hg hat; have hcz12_0 : w11.cell? ⟨gb224, 0, none⟩ = some (.int .i64 a2_0) := (blk_cell BK224.out 0).trans rfl; have hcz12_1 : w11.cell? ⟨gb224, 1, none⟩ = some (.int .i64 a2_1) := (blk_cell BK224.out 1).trans rfl; have hcz12_2 : w11.cell? ⟨gb224, 2, none⟩ = some (.int .i64 a2_2) := (blk_cell BK224.out 2).trans rfl; have hcz12_3 : w11.cell? ⟨gb224, 3, none⟩ = some (.int .i64 a2_3) := (blk_cell BK224.out 3).trans rfl; have hcz12_4 : w11.cell? ⟨gb224, 4, none⟩ = some (.int .i64 a2_4) := (blk_cell BK224.out 4).trans rfl; have hfz12_0 := blk_frozen BK224.out 0; have hfz12_1 := blk_frozen BK224.out 1; have hfz12_2 := blk_frozen BK224.out 2; have hfz12_3 := blk_frozen BK224.out 3; have hfz12_4 := blk_frozen BK224.out 4; have p7 : 0 ≤ (a1 : Int) := of_decide_eq_true (by first | (with_reducible assumption) | assumption); have q7 : (a1 : Int) < ((y228.length : Int) : Int) := of_decide_eq_true (by first | (with_reducible assumption) | assumption); obtain ⟨go7, co7, eo7, gb7, gl7, cl7, HG7⟩ := Kd.R_form HO230.out (by omega); (first | cases eo7 | (injection eo7 with ea_ en_ ec_; (first | subst ea_ | (injection ea_ with ea_; subst ea_)); subst ec_; clear en_)); have GB7 := Aside0.mk gb7; have GG7 := Aside0.mk HG7; clear gb7 gl7 HG7; obtain ⟨ce7, hcl7, hM7, hcc7, hfr7⟩ := Kd.R_elem HO230.out z28 (a1 : Int) p7 q7; obtain rfl := k28_openM hM7; have hx7_0 : w11.cell? ⟨go7, (a1 : Int).toNat * 5, none⟩ = some (.int .i64 ((rd_T28 y228 a1).f0)) := hcc7 0 _ rfl; have hx7_1 : w11.cell? ⟨go7, (a1 : Int).toNat * 5 + 1, none⟩ = some (.int .i64 ((rd_T28 y228 a1).f1)) := hcc7 1 _ rfl; have hx7_2 : w11.cell? ⟨go7, (a1 : Int).toNat * 5 + 2, none⟩ = some (.int .i64 ((rd_T28 y228 a1).f2)) := hcc7 2 _ rfl; have hx7_3 : w11.cell? ⟨go7, (a1 : Int).toNat * 5 + 3, none⟩ = some (.int .i64 ((rd_T28 y228 a1).f3)) := hcc7 3 _ rfl; have hx7_4 : w11.cell? ⟨go7, (a1 : Int).toNat * 5 + 4, none⟩ = some (.int .i64 ((rd_T28 y228 a1).f4)) := hcc7 4 _ rfl; have hf7_0 : w11.frozen? ⟨go7, (a1 : Int).toNat * 5, none⟩ = false := hfr7 0; have hf7_1 : w11.frozen? ⟨go7, (a1 : Int).toNat * 5 + 1, none⟩ = false := hfr7 1; have hf7_2 : w11.frozen? ⟨go7, (a1 : Int).toNat * 5 + 2, none⟩ = false := hfr7 2; have hf7_3 : w11.frozen? ⟨go7, (a1 : Int).toNat * 5 + 3, none⟩ = false := hfr7 3; have hf7_4 : w11.frozen? ⟨go7, (a1 : Int).toNat * 5 + 4, none⟩ = false := hfr7 4; clear hcl7 hcc7 hfr7 hM7; replace p7 := eq_true p7; replace q7 := eq_true q7; have HX13 := Aside0.mk (show Kd.R k28 28 w11 w.heap.size (fun k_ => k_ ≠ gb224) (.slice (some ⟨go7, 0, none⟩) y228.length co7) y228 from (by (with_reducible repeat (first | apply Kd.R_alloc | apply Kd.R_drewN | apply Kd.R_drew)); exact HO230.out)); obtain ⟨ce13, hcl13, hM13, hcc13, hfr13⟩ := Kd.R_elem HX13.out z28 (a1 : Int) (of_decide_eq_true (by first | (with_reducible assumption) | assumption)) (by have h_ : (a1 : Int) < ((y228.length : Int) : Int) := of_decide_eq_true (by first | (with_reducible assumption) | assumption); first | exact h_ | (have e_ := (Kd.R_reads' HO230.out).1; omega) | simpa using h_); obtain rfl := k28_openM hM13; have HP13 := Kd.R_seg HX13.out (a1 : Int) (of_decide_eq_true (by first | (with_reducible assumption) | assumption)) (by have h_ : (a1 : Int) < ((y228.length : Int) : Int) := of_decide_eq_true (by first | (with_reducible assumption) | assumption); first | exact h_ | (have e_ := (Kd.R_reads' HO230.out).1; omega) | simpa using h_) (seg := [.int .i64 a2_0, .int .i64 a2_1, .int .i64 a2_2, .int .i64 a2_3, .int .i64 a2_4]) (j := 0) hcl13 hcc13 (show 5 ≤ 5 from by decide) (x' := (⟨a2_0, a2_1, a2_2, a2_3, a2_4⟩ : S28)) (k28_mkM _ _ _ (⟨a2_0, a2_1, a2_2, a2_3, a2_4⟩ : S28) ) (fun _ hk => hk); have hx13_0 := hcc13 0 _ rfl; (try simp only [show (k28).sz = 5 from rfl, Nat.mul_one, Nat.add_zero] at hx13_0); have hf13_0 := hfr13 0; (try simp only [show (k28).sz = 5 from rfl, Nat.mul_one, Nat.add_zero] at hf13_0); have hx13_1 := hcc13 1 _ rfl; (try simp only [show (k28).sz = 5 from rfl, Nat.mul_one, Nat.add_zero] at hx13_1); have hf13_1 := hfr13 1; (try simp only [show (k28).sz = 5 from rfl, Nat.mul_one, Nat.add_zero] at hf13_1); have hx13_2 := hcc13 2 _ rfl; (try simp only [show (k28).sz = 5 from rfl, Nat.mul_one, Nat.add_zero] at hx13_2); have hf13_2 := hfr13 2; (try simp only [show (k28).sz = 5 from rfl, Nat.mul_one, Nat.add_zero] at hf13_2); have hx13_3 := hcc13 3 _ rfl; (try simp only [show (k28).sz = 5 from rfl, Nat.mul_one, Nat.add_zero] at hx13_3); have hf13_3 := hfr13 3; (try simp only [show (k28).sz = 5 from rfl, Nat.mul_one, Nat.add_zero] at hf13_3); have hx13_4 := hcc13 4 _ rfl; (try simp only [show (k28).sz = 5 from rfl, Nat.mul_one, Nat.add_zero] at hx13_4); have hf13_4 := hfr13 4; (try simp only [show (k28).sz = 5 from rfl, Nat.mul_one, Nat.add_zero] at hf13_4); clear hcl13 hcc13 hfr13 hM13) | ((with_reducible refine gate_store (t := 28) (p := 14) rfl ?_); refine store_event (t := 28) (p := 14) (v := ?vo_w14) (w1 := (((((w11.setCell ⟨go7, (a1 : Int).toNat * 5, none⟩ (.int .i64 a2_0)).setCell ⟨go7, (a1 : Int).toNat * 5 + 1, none⟩ (.int .i64 a2_1)).setCell ⟨go7, (a1 : Int).toNat * 5 + 2, none⟩ (.int .i64 a2_2)).setCell ⟨go7, (a1 : Int).toNat * 5 + 3, none⟩ (.int .i64 a2_3)).setCell ⟨go7, (a1 : Int).toNat * 5 + 4, none⟩ (.int .i64 a2_4))) ?hg ?ho ?hn ?hr ?_; (case ho => rfl); (case hg => rfl); (case hn => rfl); (case hr => first | (go_simp; done) | (go_simp; rfl)); intro w14 hw; have hg : w11.grownBy w14 (some go7) := (by rw [hw]; exact HP13.2); have hp_ : Kd.R k28 28 w14 w.heap.size (fun k_ => k_ ≠ gb224) (.slice (some ⟨go7, 0, none⟩) y228.length co7) y231 := (by rw [hw, Ny231.out]; exact HP13.1); clear HP13; have n0_ := Aside0.mk (blk_grown (g := gb224) (o := .cells #[.int .i64 a2_0, .int .i64 a2_1, .int .i64 a2_2, .int .i64 a2_3, .int .i64 a2_4] 28 (0, 0)) (by (with_reducible repeat (first | refine blk_drewN ?_ _ | refine blk_drew ?_ | refine blk_alloc ?_ _)); exact BK224.out) hg (Kd.R_away HO230.out (fun _ hk => hk))); have n1_ := Aside0.mk (hp_); have n2_ := Aside0.mk ((by rw [hw]; exact below_set (below_set (below_set (below_set (below_set (HB.out) GB7.out) GB7.out) GB7.out) GB7.out) GB7.out : Below w.heap.size w w14)); clear BK224; clear HO230; clear HB; have BK224 := n0_; have HO230 := n1_; have HB := n2_; clear n0_ n1_ n2_; clear hg hw hp_))
        go_ret
        exact ⟨_, by first | rfl | (simp [errW_none, errW_some] <;> rfl) | (simp [*, errW_none, errW_some] <;> rfl), by (with_reducible repeat (first | apply Kd.R_alloc | apply Kd.R_drewN | apply Kd.R_drew)); exact Kd.R_mono HO230.out (fun _ hk => trivial), by repeat (first | (with_reducible first | exact HB.out | apply below_alloc | apply pw_below_drewN | apply below_drew1 | refine below_set ?_ GE224.out) | exact HB.out)⟩
      · rw [if_neg c6] at H
        exact absurd H (by simp)
    · rw [if_neg c5] at H
      exact absurd H (by simp)
  · rw [if_neg c4] at H
    exact absurd H (by simp)

/-! ### r26_MostC: function 63 -/
def r26_MostC.l0 : Nat → List (S28) → Int → Int → Int → Int → Int → Int → Option (Int)
  | 0, _, _, _, _, _, _, _ => none
  | k + 1, x0, x1, x235000, x235001, x235002, x235003, x235004 => if x235001 < x235002 then ((r26_with.f x0 x1 x235000 (wrap64 (x235001 + 1)) x235002 x235003 x235004).bind fun t235 => ((r12_Test.f k t235).bind fun t238 => (if t238 = 0 then (r26_MostC.l0 k x0 x1 x235000 (wrap64 (x235001 + 1)) x235002 x235003 x235004) else (some (wrap64 ((wrap64 (x235001 + 1)) - 1)))))) else (some x235001)
def r26_MostC.f (k : Nat) (l0 : List (S28)) (a1 : Int) : Option (Int) := (r26_may.f k l0 a1).bind fun t232 => (if t232 = true then (if 0 ≤ a1 then (if a1 < (l0.length : Int) then (r26_MostC.l0 k l0 a1 ((rd_T28 l0 a1).f0) ((rd_T28 l0 a1).f1) ((rd_T28 l0 a1).f2) ((rd_T28 l0 a1).f3) ((rd_T28 l0 a1).f4)) else (none)) else (none)) else (some 0))
theorem r26_MostC.mono_l : ∀ k, (∀ y0 y1 y2 y3 y4 y5 y6, LeO (r26_MostC.l0 k y0 y1 y2 y3 y4 y5 y6) (r26_MostC.l0 (k + 1) y0 y1 y2 y3 y4 y5 y6))
  | 0 => fun _ _ _ _ _ _ _ r h => by simp [r26_MostC.l0] at h
  | k + 1 => by
    have ih0 := r26_MostC.mono_l k
    · intro y0 y1 y2 y3 y4 y5 y6
      unfold r26_MostC.l0
      repeat' first
      | (with_reducible exact ih0 _ _ _ _ _ _ _)
      | (with_reducible exact r12_Test.mono _ _)
      | (with_reducible exact r26_may.mono _ _ _)
      | (with_reducible exact LeO.refl _)
      | (with_reducible exact LeO.none _)
      | (with_reducible refine LeO.ite ?_ ?_)
      | (with_reducible refine LeO.bind ?_ (fun _ => ?_))
      | exact ih0 _ _ _ _ _ _ _
      | exact r12_Test.mono _ _
      | exact r26_may.mono _ _ _
      | exact LeO.none _
      | refine LeO.ite ?_ ?_
      | refine LeO.bind ?_ (fun _ => ?_)
theorem r26_MostC.mono : ∀ a0 a1 k, LeO (r26_MostC.f k a0 a1) (r26_MostC.f (k + 1) a0 a1) := by
  intro a0 a1 k
  have ih0 := r26_MostC.mono_l k
  unfold r26_MostC.f
  repeat' first
      | (with_reducible exact ih0 _ _ _ _ _ _ _)
      | (with_reducible exact r12_Test.mono _ _)
      | (with_reducible exact r26_may.mono _ _ _)
      | (with_reducible exact LeO.refl _)
      | (with_reducible exact LeO.none _)
      | (with_reducible refine LeO.ite ?_ ?_)
      | (with_reducible refine LeO.bind ?_ (fun _ => ?_))
      | exact ih0 _ _ _ _ _ _ _
      | exact r12_Test.mono _ _
      | exact r26_may.mono _ _ _
      | exact LeO.none _
      | refine LeO.ite ?_ ?_
      | refine LeO.bind ?_ (fun _ => ?_)
set_option maxHeartbeats 8000000 in
set_option maxRecDepth 100000 in
theorem r26_MostC.calls (k : Nat) (A0 : Option Addr) (c0 : Nat) (l0 : List (S28)) (a1 : Int) (r : Int) (w : World) (hr0 : Kd.C k28 w A0 l0.length l0) (hc0 : l0.length ≤ c0) (h : r26_MostC.f k l0 a1 = some r) :
    Calls Try.prog 63 #[.slice A0 l0.length c0, .int .i64 a1] w fun e w' => e = .returned (.int .i64 r) ∧ Below w.heap.size w w' := by
  have hu28 := Try.underlying28
  have HR0 := Aside0.mk hr0
  have HC0 := Aside0.mk hc0
  clear hr0 hc0
  have HB := Aside0.mk (Below.refl w.heap.size w)
  have H : ((r26_may.f k l0 a1).bind fun t232 => (if t232 = true then (if 0 ≤ a1 then (if a1 < (l0.length : Int) then (r26_MostC.l0 k l0 a1 ((rd_T28 l0 a1).f0) ((rd_T28 l0 a1).f1) ((rd_T28 l0 a1).f2) ((rd_T28 l0 a1).f3) ((rd_T28 l0 a1).f4)) else (none)) else (none)) else (some 0))) = some r := h
  clear h
  replace H := Option.bind_eq_some_iff.mp H
  obtain ⟨t232, A30, H⟩ := H
  replace H : (if t232 = true then (if 0 ≤ a1 then (if a1 < (l0.length : Int) then (r26_MostC.l0 k l0 a1 ((rd_T28 l0 a1).f0) ((rd_T28 l0 a1).f1) ((rd_T28 l0 a1).f2) ((rd_T28 l0 a1).f3) ((rd_T28 l0 a1).f4)) else (none)) else (none)) else (some 0)) = some r := H
  have A3 := Aside0.mk A30
  clear A30
  by_cases c4 : t232 = true
  · subst c4
    have H1 : (if 0 ≤ a1 then (if a1 < (l0.length : Int) then (r26_MostC.l0 k l0 a1 ((rd_T28 l0 a1).f0) ((rd_T28 l0 a1).f1) ((rd_T28 l0 a1).f2) ((rd_T28 l0 a1).f3) ((rd_T28 l0 a1).f4)) else (none)) else (none)) = some r := by rw [if_pos rfl] at H; exact H
    clear H
    have H := H1
    clear H1
    by_cases c5 : 0 ≤ a1
    · rw [if_pos c5] at H
      have c5b0 : decide (0 ≤ a1) = true := decide_eq_true c5
      clear c5
      by_cases c6 : a1 < (l0.length : Int)
      · rw [if_pos c6] at H
        have c6b0 : decide (a1 < (l0.length : Int)) = true := decide_eq_true c6
        clear c6
        have H' := Aside0.mk H
        clear H
        go_enter Try.func63, Try.ntmps63
        go_wp2_with (first | ((with_reducible refine gate_callee (f := 87) rfl ?_); refine goesL_ (some 9) rfl rfl Try.func87 (by kernel_rfl) rfl #[.slice A0 l0.length c0, .int .i64 a1] rfl (by (try simp only [List.map_toArray, List.map_cons, List.map_nil]); first | done | rfl | (simp only [List.length_drop, List.length_take]; rfl)) ?_; (with_reducible refine (r26_may.calls k _ _ l0 a1 true _ ?side1 ?side2 A3.out).mono ?_); (case side1 => repeat (first | exact HR0.out | (with_reducible refine Kd.C_alloc ?_ _) | (with_reducible refine Kd.C_drewN ?_ _) | (with_reducible refine Kd.C_drew ?_))); (case side2 => exact HC0.out); rintro e w7 ⟨rfl, hb⟩; refine ⟨_, rfl, ?_⟩; have n0_ := Aside0.mk (below_step (by repeat (first | (with_reducible first | exact HB.out | apply below_alloc | apply pw_below_drewN | apply below_drew1) | exact HB.out)) hb); clear HB; have HB := n0_; clear n0_; (try clear hb); (try clear hb2); (try clear hk); (try clear hi); have p233 : 0 ≤ (a1 : Int) := of_decide_eq_true (by first | (with_reducible assumption) | assumption); have q233 : a1 < (l0.length : Int) := of_decide_eq_true (by first | (with_reducible assumption) | assumption); obtain ⟨ad233, e233, hx233_0, hx233_1, hx233_2, hx233_3, hx233_4⟩ := at_T28 HR0.out a1 p233 q233; cases e233; replace hx233_0 := (HB.out.cell (World.block_lt_of_cell? w _ hx233_0)).trans hx233_0; replace hx233_1 := (HB.out.cell (World.block_lt_of_cell? w _ hx233_1)).trans hx233_1; replace hx233_2 := (HB.out.cell (World.block_lt_of_cell? w _ hx233_2)).trans hx233_2; replace hx233_3 := (HB.out.cell (World.block_lt_of_cell? w _ hx233_3)).trans hx233_3; replace hx233_4 := (HB.out.cell (World.block_lt_of_cell? w _ hx233_4)).trans hx233_4; replace p233 := eq_true p233; replace q233 := eq_true q233) | ((with_reducible refine gate_dst (N := 6) rfl ?_); refine box_event ?hg (N := 6) ?hd (cs := #[.int .i64 0, .int .i64 0, .int .i64 0, .int .i64 0, .int .i64 0]) (t := 28) ?hr ?_; (case hd => rfl); (case hg => rfl); (case hr => first | (go_simp; done) | (go_simp; rfl)); intro gb234 hg w8 hbox hb; have n0_ := Aside0.mk (below_step (by repeat (first | (with_reducible first | exact HB.out | apply below_alloc | apply pw_below_drewN | apply below_drew1) | exact HB.out)) hb); have n1_ := Aside0.mk (hbox); have n2_ := Aside0.mk ((by rw [hg]; exact (below_size (by repeat (first | (with_reducible first | exact HB.out | apply below_alloc | apply pw_below_drewN | apply below_drew1) | exact HB.out))) : w.heap.size ≤ gb234)); have n3_ := Aside0.mk ((by rw [hg]; exact (below_size (by repeat (first | (with_reducible first | exact HB.out | apply below_alloc | apply pw_below_drewN | apply below_drew1) | exact HB.out))) : w.heap.size ≤ gb234)); clear HB; have HB := n0_; have BK234 := n1_; have GW234 := n2_; have GE234 := n3_; clear n0_ n1_ n2_ n3_; clear hb hbox hg; have hcz9_0 : w8.cell? ⟨gb234, 0, none⟩ = some (.int .i64 0) := (blk_cell BK234.out 0).trans rfl; have hcz9_1 : w8.cell? ⟨gb234, 1, none⟩ = some (.int .i64 0) := (blk_cell BK234.out 1).trans rfl; have hcz9_2 : w8.cell? ⟨gb234, 2, none⟩ = some (.int .i64 0) := (blk_cell BK234.out 2).trans rfl; have hcz9_3 : w8.cell? ⟨gb234, 3, none⟩ = some (.int .i64 0) := (blk_cell BK234.out 3).trans rfl; have hcz9_4 : w8.cell? ⟨gb234, 4, none⟩ = some (.int .i64 0) := (blk_cell BK234.out 4).trans rfl; have hfz9_0 := blk_frozen BK234.out 0; have hfz9_1 := blk_frozen BK234.out 1; have hfz9_2 := blk_frozen BK234.out 2; have hfz9_3 := blk_frozen BK234.out 3; have hfz9_4 := blk_frozen BK234.out 4))
        go_loopg [] k (fun kq w' => ∃ (x235001_1 : Int), Aside0 (r26_MostC.l0 kq l0 a1 ((rd_T28 l0 a1).f0) x235001_1 ((rd_T28 l0 a1).f2) ((rd_T28 l0 a1).f3) ((rd_T28 l0 a1).f4) = some r) ∧ Aside0 (kq ≤ k) ∧ Aside0 (w'.heap[gb234]? = some (.cells #[.int .i64 ((rd_T28 l0 a1).f0), .int .i64 x235001_1, .int .i64 ((rd_T28 l0 a1).f2), .int .i64 ((rd_T28 l0 a1).f3), .int .i64 ((rd_T28 l0 a1).f4)] 28 (0, 0))) ∧ Aside0 (Below w.heap.size w w'))
        case atStart => exact ⟨((rd_T28 l0 a1).f1), H', ⟨Nat.le_refl _⟩, ⟨by (with_reducible repeat (first | refine blk_drewN ?_ _ | refine blk_drew ?_ | refine blk_alloc ?_ _)); refine blk_put (cs := #[.int .i64 ((rd_T28 l0 a1).f0), .int .i64 ((rd_T28 l0 a1).f1), .int .i64 ((rd_T28 l0 a1).f2), .int .i64 ((rd_T28 l0 a1).f3), .int .i64 0]) ?_ 4 _ rfl; (with_reducible repeat (first | refine blk_drewN ?_ _ | refine blk_drew ?_ | refine blk_alloc ?_ _)); refine blk_put (cs := #[.int .i64 ((rd_T28 l0 a1).f0), .int .i64 ((rd_T28 l0 a1).f1), .int .i64 ((rd_T28 l0 a1).f2), .int .i64 0, .int .i64 0]) ?_ 3 _ rfl; (with_reducible repeat (first | refine blk_drewN ?_ _ | refine blk_drew ?_ | refine blk_alloc ?_ _)); refine blk_put (cs := #[.int .i64 ((rd_T28 l0 a1).f0), .int .i64 ((rd_T28 l0 a1).f1), .int .i64 0, .int .i64 0, .int .i64 0]) ?_ 2 _ rfl; (with_reducible repeat (first | refine blk_drewN ?_ _ | refine blk_drew ?_ | refine blk_alloc ?_ _)); refine blk_put (cs := #[.int .i64 ((rd_T28 l0 a1).f0), .int .i64 0, .int .i64 0, .int .i64 0, .int .i64 0]) ?_ 1 _ rfl; (with_reducible repeat (first | refine blk_drewN ?_ _ | refine blk_drew ?_ | refine blk_alloc ?_ _)); refine blk_put (cs := #[.int .i64 0, .int .i64 0, .int .i64 0, .int .i64 0, .int .i64 0]) ?_ 0 _ rfl; (with_reducible repeat (first | refine blk_drewN ?_ _ | refine blk_drew ?_ | refine blk_alloc ?_ _)); exact BK234.out⟩, ⟨by repeat (first | (with_reducible first | exact HB.out | apply below_alloc | apply pw_below_drewN | apply below_drew1 | refine below_set ?_ GE234.out) | exact HB.out)⟩⟩
        case round =>
          clear H'
          try clear p2
          try clear q2
          try clear hx2
          try clear c4
          try clear c5
          try clear c5b0
          try clear c6
          try clear c6b0
          try clear c8
          try clear hcz9_0
          try clear hcz9_1
          try clear hcz9_2
          try clear hcz9_3
          try clear hcz9_4
          try clear hfz9_0
          try clear hfz9_1
          try clear hfz9_2
          try clear hfz9_3
          try clear hfz9_4
          try clear hx233_0
          try clear hx233_1
          try clear hx233_2
          try clear hx233_3
          try clear hx233_4
          try clear p233
          try clear q233
          obtain ⟨x235001_1, HA, HK1, BK234, HB⟩ := hrel
          cases gk with
          | zero => exact absurd HA.out (by simp [r26_MostC.l0])
          | succ k1 =>
            have H := HA.out
            clear HA
            simp only [r26_MostC.l0] at H
            by_cases c10 : x235001_1 < ((rd_T28 l0 a1).f2)
            · rw [if_pos c10] at H
              have c10b0 : decide (x235001_1 < ((rd_T28 l0 a1).f2)) = true := decide_eq_true c10
              clear c10
              replace H := Option.bind_eq_some_iff.mp H
              obtain ⟨t235, A110, H⟩ := H
              replace H : ((r12_Test.f k1 t235).bind fun t238 => (if t238 = 0 then (r26_MostC.l0 k1 l0 a1 ((rd_T28 l0 a1).f0) (wrap64 (x235001_1 + 1)) ((rd_T28 l0 a1).f2) ((rd_T28 l0 a1).f3) ((rd_T28 l0 a1).f4)) else (some (wrap64 ((wrap64 (x235001_1 + 1)) - 1))))) = some r := H
              have A11 := Aside0.mk A110
              clear A110
              replace H := Option.bind_eq_some_iff.mp H
              obtain ⟨t238, A120, H⟩ := H
              replace H : (if t238 = 0 then (r26_MostC.l0 k1 l0 a1 ((rd_T28 l0 a1).f0) (wrap64 (x235001_1 + 1)) ((rd_T28 l0 a1).f2) ((rd_T28 l0 a1).f3) ((rd_T28 l0 a1).f4)) else (some (wrap64 ((wrap64 (x235001_1 + 1)) - 1)))) = some r := H
              have A12 := Aside0.mk A120
              clear A120
              by_cases c13 : t238 = 0
              · rw [if_pos c13] at H
                have c13b0 : (t238 == 0) = true := beq_iff_eq.mpr c13
                have c13b1 : (t238 != 0) = false := bne_eq_false_iff_eq.mpr c13
                clear c13
                have H' := Aside0.mk H
                clear H
                have hcz14_0 : wr.cell? ⟨gb234, 0, none⟩ = some (.int .i64 ((rd_T28 l0 a1).f0)) := (blk_cell BK234.out 0).trans rfl
                have hcz14_1 : wr.cell? ⟨gb234, 1, none⟩ = some (.int .i64 x235001_1) := (blk_cell BK234.out 1).trans rfl
                have hcz14_2 : wr.cell? ⟨gb234, 2, none⟩ = some (.int .i64 ((rd_T28 l0 a1).f2)) := (blk_cell BK234.out 2).trans rfl
                have hcz14_3 : wr.cell? ⟨gb234, 3, none⟩ = some (.int .i64 ((rd_T28 l0 a1).f3)) := (blk_cell BK234.out 3).trans rfl
                have hcz14_4 : wr.cell? ⟨gb234, 4, none⟩ = some (.int .i64 ((rd_T28 l0 a1).f4)) := (blk_cell BK234.out 4).trans rfl
                have hfz14_0 := blk_frozen BK234.out 0
                have hfz14_1 := blk_frozen BK234.out 1
                have hfz14_2 := blk_frozen BK234.out 2
                have hfz14_3 := blk_frozen BK234.out 3
                have hfz14_4 := blk_frozen BK234.out 4
                go_wp2_with (first | ((with_reducible refine gate_callee (f := 88) rfl ?_); refine goesL_ (some 28) rfl rfl Try.func88 (by kernel_rfl) rfl #[.slice (some ad233) l0.length c0, .int .i64 a1, .agg #[.int .i64 ((rd_T28 l0 a1).f0), .int .i64 (wrap64 (x235001_1 + 1)), .int .i64 ((rd_T28 l0 a1).f2), .int .i64 ((rd_T28 l0 a1).f3), .int .i64 ((rd_T28 l0 a1).f4)]] rfl (by (try simp only [List.map_toArray, List.map_cons, List.map_nil]); first | done | rfl | (simp only [List.length_drop, List.length_take]; rfl)) ?_; (with_reducible refine (r26_with.calls _ _ l0 a1 ((rd_T28 l0 a1).f0) (wrap64 (x235001_1 + 1)) ((rd_T28 l0 a1).f2) ((rd_T28 l0 a1).f3) ((rd_T28 l0 a1).f4) t235 _ ?side1 ?side2 A11.out).mono ?_); (case side1 => exact Kd.C_below HR0.out (by repeat (first | (with_reducible first | exact HB.out | apply below_alloc | apply pw_below_drewN | apply below_drew1 | refine below_set ?_ GE234.out) | exact HB.out))); (case side2 => exact HC0.out); rintro e w15 ⟨v236, rfl, ho0, hb⟩; refine ⟨_, rfl, ?_⟩; have n0_ := Aside0.mk (Kd.R_lower (Kd.R_newB ho0 (g := gb234) (o := .cells #[.int .i64 ((rd_T28 l0 a1).f0), .int .i64 (wrap64 (x235001_1 + 1)), .int .i64 ((rd_T28 l0 a1).f2), .int .i64 ((rd_T28 l0 a1).f3), .int .i64 ((rd_T28 l0 a1).f4)] 28 (0, 0)) (by (with_reducible repeat (first | refine blk_drewN ?_ _ | refine blk_drew ?_ | refine blk_alloc ?_ _)); refine blk_put (cs := #[.int .i64 ((rd_T28 l0 a1).f0), .int .i64 x235001_1, .int .i64 ((rd_T28 l0 a1).f2), .int .i64 ((rd_T28 l0 a1).f3), .int .i64 ((rd_T28 l0 a1).f4)]) ?_ 1 _ rfl; (with_reducible repeat (first | refine blk_drewN ?_ _ | refine blk_drew ?_ | refine blk_alloc ?_ _)); exact BK234.out)) (below_size (by repeat (first | (with_reducible first | exact HB.out | apply below_alloc | apply pw_below_drewN | apply below_drew1 | refine below_set ?_ GE234.out) | exact HB.out)))); have n1_ := Aside0.mk (blk_below (g := gb234) (o := .cells #[.int .i64 ((rd_T28 l0 a1).f0), .int .i64 (wrap64 (x235001_1 + 1)), .int .i64 ((rd_T28 l0 a1).f2), .int .i64 ((rd_T28 l0 a1).f3), .int .i64 ((rd_T28 l0 a1).f4)] 28 (0, 0)) (by (with_reducible repeat (first | refine blk_drewN ?_ _ | refine blk_drew ?_ | refine blk_alloc ?_ _)); refine blk_put (cs := #[.int .i64 ((rd_T28 l0 a1).f0), .int .i64 x235001_1, .int .i64 ((rd_T28 l0 a1).f2), .int .i64 ((rd_T28 l0 a1).f3), .int .i64 ((rd_T28 l0 a1).f4)]) ?_ 1 _ rfl; (with_reducible repeat (first | refine blk_drewN ?_ _ | refine blk_drew ?_ | refine blk_alloc ?_ _)); exact BK234.out) hb); have n2_ := Aside0.mk (below_step (by repeat (first | (with_reducible first | exact HB.out | apply below_alloc | apply pw_below_drewN | apply below_drew1 | refine below_set ?_ GE234.out) | exact HB.out)) hb); clear BK234; clear HB; have HO237 := n0_; have BK234 := n1_; have HB := n2_; clear n0_ n1_ n2_; (try clear hb); (try clear hb2); (try clear hk); (try clear hi); (try clear ho0); obtain ⟨Ao16, co16, eo16⟩ := Kd.R_slice HO237.out; subst eo16) | ((with_reducible refine gate_callee (f := 22) rfl ?_); refine goesL_ (some 29) rfl rfl Try.func22 (by kernel_rfl) rfl #[.slice Ao16 t235.length co16] rfl (by (try simp only [List.map_toArray, List.map_cons, List.map_nil]); first | done | rfl | (simp only [List.length_drop, List.length_take]; rfl)) ?_; (with_reducible refine (r12_Test.calls k1 _ _ t235 t238 _ ?side1 ?side2 A12.out).mono ?_); (case side1 => repeat (first | exact (Kd.R_reads' HO237.out).2.2 | (with_reducible refine Kd.C_alloc ?_ _) | (with_reducible refine Kd.C_drewN ?_ _) | (with_reducible refine Kd.C_drew ?_))); (case side2 => exact (Kd.R_reads' HO237.out).2.1); rintro e w17 ⟨rfl, hb⟩; refine ⟨_, rfl, ?_⟩; have n0_ := Aside0.mk (Kd.R_below (by (with_reducible repeat (first | apply Kd.R_alloc | apply Kd.R_drewN | apply Kd.R_drew)); exact HO237.out) hb); have n1_ := Aside0.mk (blk_below (g := gb234) (o := .cells #[.int .i64 ((rd_T28 l0 a1).f0), .int .i64 (wrap64 (x235001_1 + 1)), .int .i64 ((rd_T28 l0 a1).f2), .int .i64 ((rd_T28 l0 a1).f3), .int .i64 ((rd_T28 l0 a1).f4)] 28 (0, 0)) (by (with_reducible repeat (first | refine blk_drewN ?_ _ | refine blk_drew ?_ | refine blk_alloc ?_ _)); exact BK234.out) hb); have n2_ := Aside0.mk (below_step (by repeat (first | (with_reducible first | exact HB.out | apply below_alloc | apply pw_below_drewN | apply below_drew1 | refine below_set ?_ GE234.out) | exact HB.out)) hb); clear HO237; clear BK234; clear HB; have HO237 := n0_; have BK234 := n1_; have HB := n2_; clear n0_ n1_ n2_; (try clear hb); (try clear hb2); (try clear hk); (try clear hi)))
                go_roundg k1
                case measure => have := HK1.out; omega
                case rel => exact ⟨(wrap64 (x235001_1 + 1)), H', ⟨by have := HK1.out; omega⟩, ⟨by (with_reducible repeat (first | refine blk_drewN ?_ _ | refine blk_drew ?_ | refine blk_alloc ?_ _)); exact BK234.out⟩, ⟨by repeat (first | (with_reducible first | exact HB.out | apply below_alloc | apply pw_below_drewN | apply below_drew1 | refine below_set ?_ GE234.out) | exact HB.out)⟩⟩
              · rw [if_neg c13] at H
                have c13b0 : (t238 == 0) = false := beq_eq_false_iff_ne.mpr c13
                have c13b1 : (t238 != 0) = true := bne_iff_ne.mpr c13
                obtain rfl := Option.some.inj H
                have hcz18_0 : wr.cell? ⟨gb234, 0, none⟩ = some (.int .i64 ((rd_T28 l0 a1).f0)) := (blk_cell BK234.out 0).trans rfl
                have hcz18_1 : wr.cell? ⟨gb234, 1, none⟩ = some (.int .i64 x235001_1) := (blk_cell BK234.out 1).trans rfl
                have hcz18_2 : wr.cell? ⟨gb234, 2, none⟩ = some (.int .i64 ((rd_T28 l0 a1).f2)) := (blk_cell BK234.out 2).trans rfl
                have hcz18_3 : wr.cell? ⟨gb234, 3, none⟩ = some (.int .i64 ((rd_T28 l0 a1).f3)) := (blk_cell BK234.out 3).trans rfl
                have hcz18_4 : wr.cell? ⟨gb234, 4, none⟩ = some (.int .i64 ((rd_T28 l0 a1).f4)) := (blk_cell BK234.out 4).trans rfl
                have hfz18_0 := blk_frozen BK234.out 0
                have hfz18_1 := blk_frozen BK234.out 1
                have hfz18_2 := blk_frozen BK234.out 2
                have hfz18_3 := blk_frozen BK234.out 3
                have hfz18_4 := blk_frozen BK234.out 4
                go_wp2_with (first | ((with_reducible refine gate_callee (f := 88) rfl ?_); refine goesL_ (some 28) rfl rfl Try.func88 (by kernel_rfl) rfl #[.slice (some ad233) l0.length c0, .int .i64 a1, .agg #[.int .i64 ((rd_T28 l0 a1).f0), .int .i64 (wrap64 (x235001_1 + 1)), .int .i64 ((rd_T28 l0 a1).f2), .int .i64 ((rd_T28 l0 a1).f3), .int .i64 ((rd_T28 l0 a1).f4)]] rfl (by (try simp only [List.map_toArray, List.map_cons, List.map_nil]); first | done | rfl | (simp only [List.length_drop, List.length_take]; rfl)) ?_; (with_reducible refine (r26_with.calls _ _ l0 a1 ((rd_T28 l0 a1).f0) (wrap64 (x235001_1 + 1)) ((rd_T28 l0 a1).f2) ((rd_T28 l0 a1).f3) ((rd_T28 l0 a1).f4) t235 _ ?side1 ?side2 A11.out).mono ?_); (case side1 => exact Kd.C_below HR0.out (by repeat (first | (with_reducible first | exact HB.out | apply below_alloc | apply pw_below_drewN | apply below_drew1 | refine below_set ?_ GE234.out) | exact HB.out))); (case side2 => exact HC0.out); rintro e w19 ⟨v236, rfl, ho0, hb⟩; refine ⟨_, rfl, ?_⟩; have n0_ := Aside0.mk (Kd.R_lower (Kd.R_newB ho0 (g := gb234) (o := .cells #[.int .i64 ((rd_T28 l0 a1).f0), .int .i64 (wrap64 (x235001_1 + 1)), .int .i64 ((rd_T28 l0 a1).f2), .int .i64 ((rd_T28 l0 a1).f3), .int .i64 ((rd_T28 l0 a1).f4)] 28 (0, 0)) (by (with_reducible repeat (first | refine blk_drewN ?_ _ | refine blk_drew ?_ | refine blk_alloc ?_ _)); refine blk_put (cs := #[.int .i64 ((rd_T28 l0 a1).f0), .int .i64 x235001_1, .int .i64 ((rd_T28 l0 a1).f2), .int .i64 ((rd_T28 l0 a1).f3), .int .i64 ((rd_T28 l0 a1).f4)]) ?_ 1 _ rfl; (with_reducible repeat (first | refine blk_drewN ?_ _ | refine blk_drew ?_ | refine blk_alloc ?_ _)); exact BK234.out)) (below_size (by repeat (first | (with_reducible first | exact HB.out | apply below_alloc | apply pw_below_drewN | apply below_drew1 | refine below_set ?_ GE234.out) | exact HB.out)))); have n1_ := Aside0.mk (blk_below (g := gb234) (o := .cells #[.int .i64 ((rd_T28 l0 a1).f0), .int .i64 (wrap64 (x235001_1 + 1)), .int .i64 ((rd_T28 l0 a1).f2), .int .i64 ((rd_T28 l0 a1).f3), .int .i64 ((rd_T28 l0 a1).f4)] 28 (0, 0)) (by (with_reducible repeat (first | refine blk_drewN ?_ _ | refine blk_drew ?_ | refine blk_alloc ?_ _)); refine blk_put (cs := #[.int .i64 ((rd_T28 l0 a1).f0), .int .i64 x235001_1, .int .i64 ((rd_T28 l0 a1).f2), .int .i64 ((rd_T28 l0 a1).f3), .int .i64 ((rd_T28 l0 a1).f4)]) ?_ 1 _ rfl; (with_reducible repeat (first | refine blk_drewN ?_ _ | refine blk_drew ?_ | refine blk_alloc ?_ _)); exact BK234.out) hb); have n2_ := Aside0.mk (below_step (by repeat (first | (with_reducible first | exact HB.out | apply below_alloc | apply pw_below_drewN | apply below_drew1 | refine below_set ?_ GE234.out) | exact HB.out)) hb); clear BK234; clear HB; have HO237 := n0_; have BK234 := n1_; have HB := n2_; clear n0_ n1_ n2_; (try clear hb); (try clear hb2); (try clear hk); (try clear hi); (try clear ho0); obtain ⟨Ao20, co20, eo20⟩ := Kd.R_slice HO237.out; subst eo20) | ((with_reducible refine gate_callee (f := 22) rfl ?_); refine goesL_ (some 29) rfl rfl Try.func22 (by kernel_rfl) rfl #[.slice Ao20 t235.length co20] rfl (by (try simp only [List.map_toArray, List.map_cons, List.map_nil]); first | done | rfl | (simp only [List.length_drop, List.length_take]; rfl)) ?_; (with_reducible refine (r12_Test.calls k1 _ _ t235 t238 _ ?side1 ?side2 A12.out).mono ?_); (case side1 => repeat (first | exact (Kd.R_reads' HO237.out).2.2 | (with_reducible refine Kd.C_alloc ?_ _) | (with_reducible refine Kd.C_drewN ?_ _) | (with_reducible refine Kd.C_drew ?_))); (case side2 => exact (Kd.R_reads' HO237.out).2.1); rintro e w21 ⟨rfl, hb⟩; refine ⟨_, rfl, ?_⟩; have n0_ := Aside0.mk (Kd.R_below (by (with_reducible repeat (first | apply Kd.R_alloc | apply Kd.R_drewN | apply Kd.R_drew)); exact HO237.out) hb); have n1_ := Aside0.mk (blk_below (g := gb234) (o := .cells #[.int .i64 ((rd_T28 l0 a1).f0), .int .i64 (wrap64 (x235001_1 + 1)), .int .i64 ((rd_T28 l0 a1).f2), .int .i64 ((rd_T28 l0 a1).f3), .int .i64 ((rd_T28 l0 a1).f4)] 28 (0, 0)) (by (with_reducible repeat (first | refine blk_drewN ?_ _ | refine blk_drew ?_ | refine blk_alloc ?_ _)); exact BK234.out) hb); have n2_ := Aside0.mk (below_step (by repeat (first | (with_reducible first | exact HB.out | apply below_alloc | apply pw_below_drewN | apply below_drew1 | refine below_set ?_ GE234.out) | exact HB.out)) hb); clear HO237; clear BK234; clear HB; have HO237 := n0_; have BK234 := n1_; have HB := n2_; clear n0_ n1_ n2_; (try clear hb); (try clear hb2); (try clear hk); (try clear hi); have hcz22_0 : w21.cell? ⟨gb234, 0, none⟩ = some (.int .i64 ((rd_T28 l0 a1).f0)) := (blk_cell BK234.out 0).trans rfl; have hcz22_1 : w21.cell? ⟨gb234, 1, none⟩ = some (.int .i64 (wrap64 (x235001_1 + 1))) := (blk_cell BK234.out 1).trans rfl; have hcz22_2 : w21.cell? ⟨gb234, 2, none⟩ = some (.int .i64 ((rd_T28 l0 a1).f2)) := (blk_cell BK234.out 2).trans rfl; have hcz22_3 : w21.cell? ⟨gb234, 3, none⟩ = some (.int .i64 ((rd_T28 l0 a1).f3)) := (blk_cell BK234.out 3).trans rfl; have hcz22_4 : w21.cell? ⟨gb234, 4, none⟩ = some (.int .i64 ((rd_T28 l0 a1).f4)) := (blk_cell BK234.out 4).trans rfl; have hfz22_0 := blk_frozen BK234.out 0; have hfz22_1 := blk_frozen BK234.out 1; have hfz22_2 := blk_frozen BK234.out 2; have hfz22_3 := blk_frozen BK234.out 3; have hfz22_4 := blk_frozen BK234.out 4))
                go_ret
                exact ⟨by first | rfl | (simp [errW_none, errW_some] <;> rfl) | (simp [*, errW_none, errW_some] <;> rfl), by repeat (first | (with_reducible first | exact HB.out | apply below_alloc | apply pw_below_drewN | apply below_drew1 | refine below_set ?_ GE234.out) | exact HB.out)⟩
            · rw [if_neg c10] at H
              have c10b0 : decide (x235001_1 < ((rd_T28 l0 a1).f2)) = false := decide_eq_false c10
              clear c10
              obtain rfl := Option.some.inj H
              have hcz23_0 : wr.cell? ⟨gb234, 0, none⟩ = some (.int .i64 ((rd_T28 l0 a1).f0)) := (blk_cell BK234.out 0).trans rfl
              have hcz23_1 : wr.cell? ⟨gb234, 1, none⟩ = some (.int .i64 x235001_1) := (blk_cell BK234.out 1).trans rfl
              have hcz23_2 : wr.cell? ⟨gb234, 2, none⟩ = some (.int .i64 ((rd_T28 l0 a1).f2)) := (blk_cell BK234.out 2).trans rfl
              have hcz23_3 : wr.cell? ⟨gb234, 3, none⟩ = some (.int .i64 ((rd_T28 l0 a1).f3)) := (blk_cell BK234.out 3).trans rfl
              have hcz23_4 : wr.cell? ⟨gb234, 4, none⟩ = some (.int .i64 ((rd_T28 l0 a1).f4)) := (blk_cell BK234.out 4).trans rfl
              have hfz23_0 := blk_frozen BK234.out 0
              have hfz23_1 := blk_frozen BK234.out 1
              have hfz23_2 := blk_frozen BK234.out 2
              have hfz23_3 := blk_frozen BK234.out 3
              have hfz23_4 := blk_frozen BK234.out 4
              go_wp2
              go_ret
              exact ⟨by first | rfl | (simp [errW_none, errW_some] <;> rfl) | (simp [*, errW_none, errW_some] <;> rfl), by repeat (first | (with_reducible first | exact HB.out | apply below_alloc | apply pw_below_drewN | apply below_drew1 | refine below_set ?_ GE234.out) | exact HB.out)⟩
      · rw [if_neg c6] at H
        exact absurd H (by simp)
    · rw [if_neg c5] at H
      exact absurd H (by simp)
  · replace c4 := Bool.eq_false_iff.mpr c4
    subst c4
    have H1 : (some 0) = some r := by rw [if_neg (show ¬ (false = true) by decide)] at H; exact H
    clear H
    have H := H1
    clear H1
    obtain rfl := Option.some.inj H
    go_enter Try.func63, Try.ntmps63
    go_wp2_with (first | ((with_reducible refine gate_callee (f := 87) rfl ?_); refine goesL_ (some 9) rfl rfl Try.func87 (by kernel_rfl) rfl #[.slice A0 l0.length c0, .int .i64 a1] rfl (by (try simp only [List.map_toArray, List.map_cons, List.map_nil]); first | done | rfl | (simp only [List.length_drop, List.length_take]; rfl)) ?_; (with_reducible refine (r26_may.calls k _ _ l0 a1 false _ ?side1 ?side2 A3.out).mono ?_); (case side1 => repeat (first | exact HR0.out | (with_reducible refine Kd.C_alloc ?_ _) | (with_reducible refine Kd.C_drewN ?_ _) | (with_reducible refine Kd.C_drew ?_))); (case side2 => exact HC0.out); rintro e w24 ⟨rfl, hb⟩; refine ⟨_, rfl, ?_⟩; have n0_ := Aside0.mk (below_step (by repeat (first | (with_reducible first | exact HB.out | apply below_alloc | apply pw_below_drewN | apply below_drew1) | exact HB.out)) hb); clear HB; have HB := n0_; clear n0_; (try clear hb); (try clear hb2); (try clear hk); (try clear hi)))
    go_ret
    exact ⟨by first | rfl | (simp [errW_none, errW_some] <;> rfl) | (simp [*, errW_none, errW_some] <;> rfl), by repeat (first | (with_reducible first | exact HB.out | apply below_alloc | apply pw_below_drewN | apply below_drew1) | exact HB.out)⟩

end Go.Proofs.Ytmgmpifbhjoijaa.PProbeTells
