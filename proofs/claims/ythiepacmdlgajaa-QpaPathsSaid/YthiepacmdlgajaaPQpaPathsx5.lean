-- Made by px.py (a program of this session, over the kit's printer) out of the translation. Not trusted: Lean checks it.
import Derived.Test.YthiepacmdlgajaaPQpaPathsx0
import Derived.Test.YthiepacmdlgajaaPQpaPathsx1
import Derived.Test.YthiepacmdlgajaaPQpaPathsx2
import Derived.Test.YthiepacmdlgajaaPQpaPathsx4
namespace Go.Proofs.Ythiepacmdlgajaa.PQpaPaths
open Go.RowKit Go.Proofs.YthiepacmdlgajaaW.PrintWords Go.Proofs.YthiepacmdlgajaaW.PrintLast Go.Proofs.YthiepacmdlgajaaW.PrintMore
attribute [local go_sem] max2_int min2_int max_two min_two max_three min_three max_four min_four   -- for this text's walks alone
set_option linter.unusedVariables false
set_option linter.unusedSimpArgs false

/-! ### horariumlaw12_made: function 28 -/
def horariumlaw12_made.l0 : Nat → List (S31) → List (S28) → Int → Int → Int → Int → Int → Int → Int → Int → Int → Option ((List (S28)))
  | 0, _, _, _, _, _, _, _, _, _, _, _ => none
  | k + 1, x0, x4, x5, x138000, x138001, x138002, x138003, x138004, x138005, x138006, x138007 => if x5 < (x0.length : Int) then (if x5 < 8 then (if 0 ≤ x5 then (if 0 ≤ (Go.bits .and .i64 ((rd_T31 x0 x5).f2) 7) then (if (Go.bits .and .i64 ((rd_T31 x0 x5).f2) 7) < 8 then (if (rd [x138000, x138001, x138002, x138003, x138004, x138005, x138006, x138007] (Go.bits .and .i64 ((rd_T31 x0 x5).f2) 7)) = 0 then (none) else (if (wrap64 (1 + (Int.tmod (wrap64 ((Int.tmod ((rd_T31 x0 x5).f1) (rd [x138000, x138001, x138002, x138003, x138004, x138005, x138006, x138007] (Go.bits .and .i64 ((rd_T31 x0 x5).f2) 7))) + (rd [x138000, x138001, x138002, x138003, x138004, x138005, x138006, x138007] (Go.bits .and .i64 ((rd_T31 x0 x5).f2) 7)))) (rd [x138000, x138001, x138002, x138003, x138004, x138005, x138006, x138007] (Go.bits .and .i64 ((rd_T31 x0 x5).f2) 7))))) = 0 then (none) else (if x4.length < 3518437208883 then (horariumlaw12_made.l0 k x0 (x4 ++ [(⟨x5, wrap64 (1 + (Int.tmod (wrap64 ((Int.tmod ((rd_T31 x0 x5).f0) (wrap64 (1 + (Int.tmod (wrap64 ((Int.tmod ((rd_T31 x0 x5).f1) (rd [x138000, x138001, x138002, x138003, x138004, x138005, x138006, x138007] (Go.bits .and .i64 ((rd_T31 x0 x5).f2) 7))) + (rd [x138000, x138001, x138002, x138003, x138004, x138005, x138006, x138007] (Go.bits .and .i64 ((rd_T31 x0 x5).f2) 7)))) (rd [x138000, x138001, x138002, x138003, x138004, x138005, x138006, x138007] (Go.bits .and .i64 ((rd_T31 x0 x5).f2) 7)))))) + (wrap64 (1 + (Int.tmod (wrap64 ((Int.tmod ((rd_T31 x0 x5).f1) (rd [x138000, x138001, x138002, x138003, x138004, x138005, x138006, x138007] (Go.bits .and .i64 ((rd_T31 x0 x5).f2) 7))) + (rd [x138000, x138001, x138002, x138003, x138004, x138005, x138006, x138007] (Go.bits .and .i64 ((rd_T31 x0 x5).f2) 7)))) (rd [x138000, x138001, x138002, x138003, x138004, x138005, x138006, x138007] (Go.bits .and .i64 ((rd_T31 x0 x5).f2) 7))))))) (wrap64 (1 + (Int.tmod (wrap64 ((Int.tmod ((rd_T31 x0 x5).f1) (rd [x138000, x138001, x138002, x138003, x138004, x138005, x138006, x138007] (Go.bits .and .i64 ((rd_T31 x0 x5).f2) 7))) + (rd [x138000, x138001, x138002, x138003, x138004, x138005, x138006, x138007] (Go.bits .and .i64 ((rd_T31 x0 x5).f2) 7)))) (rd [x138000, x138001, x138002, x138003, x138004, x138005, x138006, x138007] (Go.bits .and .i64 ((rd_T31 x0 x5).f2) 7))))))), wrap64 (1 + (Int.tmod (wrap64 ((Int.tmod ((rd_T31 x0 x5).f1) (rd [x138000, x138001, x138002, x138003, x138004, x138005, x138006, x138007] (Go.bits .and .i64 ((rd_T31 x0 x5).f2) 7))) + (rd [x138000, x138001, x138002, x138003, x138004, x138005, x138006, x138007] (Go.bits .and .i64 ((rd_T31 x0 x5).f2) 7)))) (rd [x138000, x138001, x138002, x138003, x138004, x138005, x138006, x138007] (Go.bits .and .i64 ((rd_T31 x0 x5).f2) 7)))), rd [x138000, x138001, x138002, x138003, x138004, x138005, x138006, x138007] (Go.bits .and .i64 ((rd_T31 x0 x5).f2) 7), wrap64 (1 + (Int.tmod (Go.bits .and .i64 (((rd_T31 x0 x5).f2) / 8) 15) 15))⟩ : S28)]) (wrap64 (x5 + 1)) x138000 x138001 x138002 x138003 x138004 x138005 x138006 x138007) else (none)))) else (none)) else (none)) else (none)) else (some x4)) else (some x4)
def horariumlaw12_made.f (k : Nat) (l0 : List (S31)) : Option ((List (S28))) := horariumlaw12_made.l0 k l0 ([] : List (S28)) 0 2 3 4 5 6 8 10 12
theorem horariumlaw12_made.mono_l : ∀ k, (∀ y0 y1 y2 y3 y4 y5 y6 y7 y8 y9 y10, LeO (horariumlaw12_made.l0 k y0 y1 y2 y3 y4 y5 y6 y7 y8 y9 y10) (horariumlaw12_made.l0 (k + 1) y0 y1 y2 y3 y4 y5 y6 y7 y8 y9 y10))
  | 0 => fun _ _ _ _ _ _ _ _ _ _ _ r h => by simp [horariumlaw12_made.l0] at h
  | k + 1 => by
    have ih0 := horariumlaw12_made.mono_l k
    · intro y0 y1 y2 y3 y4 y5 y6 y7 y8 y9 y10
      unfold horariumlaw12_made.l0
      repeat' first
      | (with_reducible exact ih0 _ _ _ _ _ _ _ _ _ _ _)
      | (with_reducible exact LeO.refl _)
      | (with_reducible exact LeO.none _)
      | (with_reducible refine LeO.ite ?_ ?_)
      | (with_reducible refine LeO.bind ?_ (fun _ => ?_))
      | exact ih0 _ _ _ _ _ _ _ _ _ _ _
      | exact LeO.none _
      | refine LeO.ite ?_ ?_
      | refine LeO.bind ?_ (fun _ => ?_)
theorem horariumlaw12_made.mono : ∀ a0 k, LeO (horariumlaw12_made.f k a0) (horariumlaw12_made.f (k + 1) a0) := by
  intro a0 k
  have ih0 := horariumlaw12_made.mono_l k
  unfold horariumlaw12_made.f
  repeat' first
      | (with_reducible exact ih0 _ _ _ _ _ _ _ _ _ _ _)
      | (with_reducible exact LeO.refl _)
      | (with_reducible exact LeO.none _)
      | (with_reducible refine LeO.ite ?_ ?_)
      | (with_reducible refine LeO.bind ?_ (fun _ => ?_))
      | exact ih0 _ _ _ _ _ _ _ _ _ _ _
      | exact LeO.none _
      | refine LeO.ite ?_ ?_
      | refine LeO.bind ?_ (fun _ => ?_)
def horariumlaw12_made.T8 : Bool × List (List Nat × List Nat) := (true, [([], []), ([], []), ([], []), ([], []), ([2, 3], [2, 3]), ([4], [4]), ([5], [5]), ([], []), ([6, 7], [6, 7]), ([], []), ([8, 9], [8, 9]), ([], []), ([10, 11], [10, 11]), ([12], [12]), ([], []), ([], []), ([], []), ([], []), ([16, 17], [16, 17]), ([18], [18]), ([19], [19]), ([20], [20]), ([21], [21]), ([22], [22]), ([23], [23]), ([1, 13, 14, 15, 24], [1, 13, 14, 15, 24]), ([25], [25]), ([0, 26], [0, 26]), ([27, 27, 0, 1, 2, 3, 4, 5, 6, 7, 8, 9, 10, 11, 12, 13, 14, 15, 16, 17, 18, 19, 20, 21, 22, 23, 24, 25, 26, 27], [0, 27])])
def horariumlaw12_made.B8 : List Nat := [0, 0, 0, 0, 12, 28, 60, 0, 252, 0, 1020, 0, 4092, 8188, 0, 0, 0, 0, 196608, 458752, 983040, 2031616, 4128768, 8323072, 16711680, 33554430, 67108862, 134217727, 268435455]
theorem horariumlaw12_made.tab8 : rtab .any (opsOf Try.f28 8) = horariumlaw12_made.T8 := by kernel_rfl
theorem horariumlaw12_made.bits8 : waitsOk horariumlaw12_made.T8.2 horariumlaw12_made.B8 = true := by kernel_rfl
set_option maxHeartbeats 8000000 in
set_option maxRecDepth 100000 in
theorem horariumlaw12_made.calls (k : Nat) (A0 : Option Addr) (c0 : Nat) (l0 : List (S31)) (r : List (S28)) (w : World) (hr0 : Kd.C k31 w A0 l0.length l0) (hc0 : l0.length ≤ c0) (h : horariumlaw12_made.f k l0 = some r) :
    Calls Try.prog 28 #[.slice A0 l0.length c0] w fun e w' => ∃ v0_ : Value, e = .returned (v0_) ∧ Kd.R k28 28 w' w.heap.size (fun _ => True) v0_ r ∧ Below w.heap.size w w' := by
  have hu54 := Try.underlying54
  have hu28 := Try.underlying28
  have HR0 := Aside0.mk hr0
  have HC0 := Aside0.mk hc0
  clear hr0 hc0
  have HB := Aside0.mk (Below.refl w.heap.size w)
  have H : (horariumlaw12_made.l0 k l0 ([] : List (S28)) 0 2 3 4 5 6 8 10 12) = some r := h
  clear h
  have H' := Aside0.mk H
  clear H
  go_enter Try.func28, Try.ntmps28
  go_wp2_with (first | ((with_reducible refine gate_dst (N := 3) rfl ?_); refine box_event ?hg (N := 3) ?hd (cs := #[.int .i64 0, .int .i64 0, .int .i64 0, .int .i64 0, .int .i64 0, .int .i64 0, .int .i64 0, .int .i64 0]) (t := 54) ?hr ?_; (case hd => rfl); (case hg => rfl); (case hr => first | (go_simp; done) | (go_simp; rfl)); intro gb137 hg w2 hbox hb; have n0_ := Aside0.mk (below_step (by repeat (first | (with_reducible first | exact HB.out | apply below_alloc | apply pw_below_drewN | apply below_drew1) | exact HB.out)) hb); have n1_ := Aside0.mk (hbox); have n2_ := Aside0.mk ((by rw [hg]; exact (below_size (by repeat (first | (with_reducible first | exact HB.out | apply below_alloc | apply pw_below_drewN | apply below_drew1) | exact HB.out))) : w.heap.size ≤ gb137)); have n3_ := Aside0.mk ((by rw [hg]; exact (below_size (by repeat (first | (with_reducible first | exact HB.out | apply below_alloc | apply pw_below_drewN | apply below_drew1) | exact HB.out))) : w.heap.size ≤ gb137)); clear HB; have HB := n0_; have BK137 := n1_; have GW137 := n2_; have GE137 := n3_; clear n0_ n1_ n2_ n3_; clear hb hbox hg; have hcz3_0 : w2.cell? ⟨gb137, 0, none⟩ = some (.int .i64 0) := (blk_cell BK137.out 0).trans rfl; have hcz3_1 : w2.cell? ⟨gb137, 1, none⟩ = some (.int .i64 0) := (blk_cell BK137.out 1).trans rfl; have hcz3_2 : w2.cell? ⟨gb137, 2, none⟩ = some (.int .i64 0) := (blk_cell BK137.out 2).trans rfl; have hcz3_3 : w2.cell? ⟨gb137, 3, none⟩ = some (.int .i64 0) := (blk_cell BK137.out 3).trans rfl; have hcz3_4 : w2.cell? ⟨gb137, 4, none⟩ = some (.int .i64 0) := (blk_cell BK137.out 4).trans rfl; have hcz3_5 : w2.cell? ⟨gb137, 5, none⟩ = some (.int .i64 0) := (blk_cell BK137.out 5).trans rfl; have hcz3_6 : w2.cell? ⟨gb137, 6, none⟩ = some (.int .i64 0) := (blk_cell BK137.out 6).trans rfl; have hcz3_7 : w2.cell? ⟨gb137, 7, none⟩ = some (.int .i64 0) := (blk_cell BK137.out 7).trans rfl; have hfz3_0 := blk_frozen BK137.out 0; have hfz3_1 := blk_frozen BK137.out 1; have hfz3_2 := blk_frozen BK137.out 2; have hfz3_3 := blk_frozen BK137.out 3; have hfz3_4 := blk_frozen BK137.out 4; have hfz3_5 := blk_frozen BK137.out 5; have hfz3_6 := blk_frozen BK137.out 6; have hfz3_7 := blk_frozen BK137.out 7))
  go_loopg [4, 5] k (fun kq v4 v5 w' => ∃ (x4_1 : List (S28)) (x5_1 : Int), v5 = .int .i64 x5_1 ∧ Aside0 (horariumlaw12_made.l0 kq l0 x4_1 x5_1 2 3 4 5 6 8 10 12 = some r) ∧ Aside0 (kq ≤ k) ∧ Aside0 (Kd.R k28 28 w' w.heap.size (fun _ => True) v4 x4_1) ∧ Aside0 (w'.heap[gb137]? = some (.cells #[.int .i64 2, .int .i64 3, .int .i64 4, .int .i64 5, .int .i64 6, .int .i64 8, .int .i64 10, .int .i64 12] 54 (0, 0))) ∧ Aside0 (Below w.heap.size w w'))
  case atStart => exact ⟨(([] : List (S28))), (0), (by first | rfl | (simp; done) | (simp [*]; done)), H', ⟨Nat.le_refl _⟩, ⟨by first | exact Kd.R_nil _ _ _ _ _ | exact Kd.N_nil _ _ _ _ _ | exact Kd.V_nil _ _ _ _ _ | exact Kd.Q_nil _ _ _ _ _ | exact Kd.S_nil _ _ _ _ _⟩, ⟨by (with_reducible repeat (first | refine blk_drewN ?_ _ | refine blk_drew ?_ | refine blk_alloc ?_ _)); refine blk_put (cs := #[.int .i64 2, .int .i64 3, .int .i64 4, .int .i64 5, .int .i64 6, .int .i64 8, .int .i64 10, .int .i64 0]) ?_ 7 _ rfl; (with_reducible repeat (first | refine blk_drewN ?_ _ | refine blk_drew ?_ | refine blk_alloc ?_ _)); refine blk_put (cs := #[.int .i64 2, .int .i64 3, .int .i64 4, .int .i64 5, .int .i64 6, .int .i64 8, .int .i64 0, .int .i64 0]) ?_ 6 _ rfl; (with_reducible repeat (first | refine blk_drewN ?_ _ | refine blk_drew ?_ | refine blk_alloc ?_ _)); refine blk_put (cs := #[.int .i64 2, .int .i64 3, .int .i64 4, .int .i64 5, .int .i64 6, .int .i64 0, .int .i64 0, .int .i64 0]) ?_ 5 _ rfl; (with_reducible repeat (first | refine blk_drewN ?_ _ | refine blk_drew ?_ | refine blk_alloc ?_ _)); refine blk_put (cs := #[.int .i64 2, .int .i64 3, .int .i64 4, .int .i64 5, .int .i64 0, .int .i64 0, .int .i64 0, .int .i64 0]) ?_ 4 _ rfl; (with_reducible repeat (first | refine blk_drewN ?_ _ | refine blk_drew ?_ | refine blk_alloc ?_ _)); refine blk_put (cs := #[.int .i64 2, .int .i64 3, .int .i64 4, .int .i64 0, .int .i64 0, .int .i64 0, .int .i64 0, .int .i64 0]) ?_ 3 _ rfl; (with_reducible repeat (first | refine blk_drewN ?_ _ | refine blk_drew ?_ | refine blk_alloc ?_ _)); refine blk_put (cs := #[.int .i64 2, .int .i64 3, .int .i64 0, .int .i64 0, .int .i64 0, .int .i64 0, .int .i64 0, .int .i64 0]) ?_ 2 _ rfl; (with_reducible repeat (first | refine blk_drewN ?_ _ | refine blk_drew ?_ | refine blk_alloc ?_ _)); refine blk_put (cs := #[.int .i64 2, .int .i64 0, .int .i64 0, .int .i64 0, .int .i64 0, .int .i64 0, .int .i64 0, .int .i64 0]) ?_ 1 _ rfl; (with_reducible repeat (first | refine blk_drewN ?_ _ | refine blk_drew ?_ | refine blk_alloc ?_ _)); refine blk_put (cs := #[.int .i64 0, .int .i64 0, .int .i64 0, .int .i64 0, .int .i64 0, .int .i64 0, .int .i64 0, .int .i64 0]) ?_ 0 _ rfl; (with_reducible repeat (first | refine blk_drewN ?_ _ | refine blk_drew ?_ | refine blk_alloc ?_ _)); exact BK137.out⟩, ⟨by repeat (first | (with_reducible first | exact HB.out | apply below_alloc | apply pw_below_drewN | apply below_drew1 | refine below_set ?_ GE137.out) | exact HB.out)⟩⟩
  case round =>
    clear H'
    try clear c2
    try clear p2
    try clear hcz3_0
    try clear hcz3_1
    try clear hcz3_2
    try clear hcz3_3
    try clear hcz3_4
    try clear hcz3_5
    try clear hcz3_6
    try clear hcz3_7
    try clear hfz3_0
    try clear hfz3_1
    try clear hfz3_2
    try clear hfz3_3
    try clear hfz3_4
    try clear hfz3_5
    try clear hfz3_6
    try clear hfz3_7
    obtain ⟨x4_1, x5_1, rfl, HA, HK1, HO_4, BK137, HB⟩ := hrel
    cases gk with
    | zero => exact absurd HA.out (by simp [horariumlaw12_made.l0])
    | succ k1 =>
      have H := HA.out
      clear HA
      simp only [horariumlaw12_made.l0] at H
      by_cases c4 : x5_1 < (l0.length : Int)
      · rw [if_pos c4] at H
        have c4b0 : decide (x5_1 < (l0.length : Int)) = true := decide_eq_true c4
        clear c4
        by_cases c5 : x5_1 < 8
        · rw [if_pos c5] at H
          have c5b0 : decide (x5_1 < 8) = true := decide_eq_true c5
          clear c5
          by_cases c6 : 0 ≤ x5_1
          · rw [if_pos c6] at H
            have c6b0 : decide (0 ≤ x5_1) = true := decide_eq_true c6
            clear c6
            by_cases c7 : 0 ≤ (Go.bits .and .i64 ((rd_T31 l0 x5_1).f2) 7)
            · rw [if_pos c7] at H
              have c7b0 : decide (0 ≤ (Go.bits .and .i64 ((rd_T31 l0 x5_1).f2) 7)) = true := decide_eq_true c7
              clear c7
              by_cases c8 : (Go.bits .and .i64 ((rd_T31 l0 x5_1).f2) 7) < 8
              · rw [if_pos c8] at H
                have c8b0 : decide ((Go.bits .and .i64 ((rd_T31 l0 x5_1).f2) 7) < 8) = true := decide_eq_true c8
                clear c8
                by_cases c9 : (rd [2, 3, 4, 5, 6, 8, 10, 12] (Go.bits .and .i64 ((rd_T31 l0 x5_1).f2) 7)) = 0
                · rw [if_pos c9] at H
                  exact absurd H (by simp)
                · rw [if_neg c9] at H
                  have c9b0 : ((rd [2, 3, 4, 5, 6, 8, 10, 12] (Go.bits .and .i64 ((rd_T31 l0 x5_1).f2) 7)) == 0) = false := beq_eq_false_iff_ne.mpr c9
                  have c9b1 : ((rd [2, 3, 4, 5, 6, 8, 10, 12] (Go.bits .and .i64 ((rd_T31 l0 x5_1).f2) 7)) != 0) = true := bne_iff_ne.mpr c9
                  by_cases c10 : (wrap64 (1 + (Int.tmod (wrap64 ((Int.tmod ((rd_T31 l0 x5_1).f1) (rd [2, 3, 4, 5, 6, 8, 10, 12] (Go.bits .and .i64 ((rd_T31 l0 x5_1).f2) 7))) + (rd [2, 3, 4, 5, 6, 8, 10, 12] (Go.bits .and .i64 ((rd_T31 l0 x5_1).f2) 7)))) (rd [2, 3, 4, 5, 6, 8, 10, 12] (Go.bits .and .i64 ((rd_T31 l0 x5_1).f2) 7))))) = 0
                  · rw [if_pos c10] at H
                    exact absurd H (by simp)
                  · rw [if_neg c10] at H
                    have c10b0 : ((wrap64 (1 + (Int.tmod (wrap64 ((Int.tmod ((rd_T31 l0 x5_1).f1) (rd [2, 3, 4, 5, 6, 8, 10, 12] (Go.bits .and .i64 ((rd_T31 l0 x5_1).f2) 7))) + (rd [2, 3, 4, 5, 6, 8, 10, 12] (Go.bits .and .i64 ((rd_T31 l0 x5_1).f2) 7)))) (rd [2, 3, 4, 5, 6, 8, 10, 12] (Go.bits .and .i64 ((rd_T31 l0 x5_1).f2) 7))))) == 0) = false := beq_eq_false_iff_ne.mpr c10
                    have c10b1 : ((wrap64 (1 + (Int.tmod (wrap64 ((Int.tmod ((rd_T31 l0 x5_1).f1) (rd [2, 3, 4, 5, 6, 8, 10, 12] (Go.bits .and .i64 ((rd_T31 l0 x5_1).f2) 7))) + (rd [2, 3, 4, 5, 6, 8, 10, 12] (Go.bits .and .i64 ((rd_T31 l0 x5_1).f2) 7)))) (rd [2, 3, 4, 5, 6, 8, 10, 12] (Go.bits .and .i64 ((rd_T31 l0 x5_1).f2) 7))))) != 0) = true := bne_iff_ne.mpr c10
                    by_cases c11 : x4_1.length < 3518437208883
                    · rw [if_pos c11] at H
                      have LMc11 := Aside0.mk c11
                      clear c11
                      obtain ⟨y142, hy142⟩ : ∃ y_ : List (S28), y_ = (x4_1 ++ [(⟨x5_1, wrap64 (1 + (Int.tmod (wrap64 ((Int.tmod ((rd_T31 l0 x5_1).f0) (wrap64 (1 + (Int.tmod (wrap64 ((Int.tmod ((rd_T31 l0 x5_1).f1) (rd [2, 3, 4, 5, 6, 8, 10, 12] (Go.bits .and .i64 ((rd_T31 l0 x5_1).f2) 7))) + (rd [2, 3, 4, 5, 6, 8, 10, 12] (Go.bits .and .i64 ((rd_T31 l0 x5_1).f2) 7)))) (rd [2, 3, 4, 5, 6, 8, 10, 12] (Go.bits .and .i64 ((rd_T31 l0 x5_1).f2) 7)))))) + (wrap64 (1 + (Int.tmod (wrap64 ((Int.tmod ((rd_T31 l0 x5_1).f1) (rd [2, 3, 4, 5, 6, 8, 10, 12] (Go.bits .and .i64 ((rd_T31 l0 x5_1).f2) 7))) + (rd [2, 3, 4, 5, 6, 8, 10, 12] (Go.bits .and .i64 ((rd_T31 l0 x5_1).f2) 7)))) (rd [2, 3, 4, 5, 6, 8, 10, 12] (Go.bits .and .i64 ((rd_T31 l0 x5_1).f2) 7))))))) (wrap64 (1 + (Int.tmod (wrap64 ((Int.tmod ((rd_T31 l0 x5_1).f1) (rd [2, 3, 4, 5, 6, 8, 10, 12] (Go.bits .and .i64 ((rd_T31 l0 x5_1).f2) 7))) + (rd [2, 3, 4, 5, 6, 8, 10, 12] (Go.bits .and .i64 ((rd_T31 l0 x5_1).f2) 7)))) (rd [2, 3, 4, 5, 6, 8, 10, 12] (Go.bits .and .i64 ((rd_T31 l0 x5_1).f2) 7))))))), wrap64 (1 + (Int.tmod (wrap64 ((Int.tmod ((rd_T31 l0 x5_1).f1) (rd [2, 3, 4, 5, 6, 8, 10, 12] (Go.bits .and .i64 ((rd_T31 l0 x5_1).f2) 7))) + (rd [2, 3, 4, 5, 6, 8, 10, 12] (Go.bits .and .i64 ((rd_T31 l0 x5_1).f2) 7)))) (rd [2, 3, 4, 5, 6, 8, 10, 12] (Go.bits .and .i64 ((rd_T31 l0 x5_1).f2) 7)))), rd [2, 3, 4, 5, 6, 8, 10, 12] (Go.bits .and .i64 ((rd_T31 l0 x5_1).f2) 7), wrap64 (1 + (Int.tmod (Go.bits .and .i64 (((rd_T31 l0 x5_1).f2) / 8) 15) 15))⟩ : S28)]) := ⟨_, rfl⟩
                      replace H : (horariumlaw12_made.l0 k1 l0 y142 (wrap64 (x5_1 + 1)) 2 3 4 5 6 8 10 12) = some r := by first | (rw [hy142]; with_reducible exact H) | (have H2_ := (Option.bind_some _ _).symm.trans H; rw [hy142]; with_reducible exact H2_) | (have H2_ := (Option.bind_some _ _).symm.trans H; with_reducible exact H2_) | with_reducible exact H | (rw [hy142]; exact H) | exact H
                      have Ny142 := Aside0.mk hy142
                      clear hy142
                      have H' := Aside0.mk H
                      clear H
                      have p138 : 0 ≤ (x5_1 : Int) := of_decide_eq_true (by first | (with_reducible assumption) | assumption)
                      have q138 : x5_1 < (l0.length : Int) := of_decide_eq_true (by first | (with_reducible assumption) | assumption)
                      obtain ⟨ad138, e138, hx138_0, hx138_1, hx138_2⟩ := at_T31 HR0.out x5_1 p138 q138
                      cases e138
                      replace hx138_0 := (HB.out.cell (World.block_lt_of_cell? w _ hx138_0)).trans hx138_0
                      replace hx138_1 := (HB.out.cell (World.block_lt_of_cell? w _ hx138_1)).trans hx138_1
                      replace hx138_2 := (HB.out.cell (World.block_lt_of_cell? w _ hx138_2)).trans hx138_2
                      replace p138 := eq_true p138
                      replace q138 := eq_true q138
                      have hcz12_0 : wr.cell? ⟨gb137, 0, none⟩ = some (.int .i64 2) := (blk_cell BK137.out 0).trans rfl
                      have hcz12_1 : wr.cell? ⟨gb137, 1, none⟩ = some (.int .i64 3) := (blk_cell BK137.out 1).trans rfl
                      have hcz12_2 : wr.cell? ⟨gb137, 2, none⟩ = some (.int .i64 4) := (blk_cell BK137.out 2).trans rfl
                      have hcz12_3 : wr.cell? ⟨gb137, 3, none⟩ = some (.int .i64 5) := (blk_cell BK137.out 3).trans rfl
                      have hcz12_4 : wr.cell? ⟨gb137, 4, none⟩ = some (.int .i64 6) := (blk_cell BK137.out 4).trans rfl
                      have hcz12_5 : wr.cell? ⟨gb137, 5, none⟩ = some (.int .i64 8) := (blk_cell BK137.out 5).trans rfl
                      have hcz12_6 : wr.cell? ⟨gb137, 6, none⟩ = some (.int .i64 10) := (blk_cell BK137.out 6).trans rfl
                      have hcz12_7 : wr.cell? ⟨gb137, 7, none⟩ = some (.int .i64 12) := (blk_cell BK137.out 7).trans rfl
                      have hfz12_0 := blk_frozen BK137.out 0
                      have hfz12_1 := blk_frozen BK137.out 1
                      have hfz12_2 := blk_frozen BK137.out 2
                      have hfz12_3 := blk_frozen BK137.out 3
                      have hfz12_4 := blk_frozen BK137.out 4
                      have hfz12_5 := blk_frozen BK137.out 5
                      have hfz12_6 := blk_frozen BK137.out 6
                      have hfz12_7 := blk_frozen BK137.out 7
                      have hcp13 : 0 ≤ (Go.bits .and .i64 ((rd_T31 l0 x5_1).f2) 7) := (of_decide_eq_true (by first | (with_reducible assumption) | assumption))
                      have hcq13 : (Go.bits .and .i64 ((rd_T31 l0 x5_1).f2) 7) < 8 := (of_decide_eq_true (by first | (with_reducible assumption) | assumption))
                      have hcd13 : wr.cell? ⟨gb137, (Go.bits .and .i64 ((rd_T31 l0 x5_1).f2) 7).toNat, none⟩ = some (.int .i64 (rd [2, 3, 4, 5, 6, 8, 10, 12] (Go.bits .and .i64 ((rd_T31 l0 x5_1).f2) 7))) := dyn_cell BK137.out [2, 3, 4, 5, 6, 8, 10, 12] rfl (Go.bits .and .i64 ((rd_T31 l0 x5_1).f2) 7) hcp13 hcq13
                      replace hcp13 := eq_true hcp13
                      replace hcq13 := eq_true hcq13
                      have p139 : 0 ≤ (x5_1 : Int) := of_decide_eq_true (by first | (with_reducible assumption) | assumption)
                      have q139 : x5_1 < (l0.length : Int) := of_decide_eq_true (by first | (with_reducible assumption) | assumption)
                      obtain ⟨ad139, e139, hx139_0, hx139_1, hx139_2⟩ := at_T31 HR0.out x5_1 p139 q139
                      obtain rfl : ad138 = ad139 := (by injection e139)
                      replace hx139_0 := (HB.out.cell (World.block_lt_of_cell? w _ hx139_0)).trans hx139_0
                      replace hx139_1 := (HB.out.cell (World.block_lt_of_cell? w _ hx139_1)).trans hx139_1
                      replace hx139_2 := (HB.out.cell (World.block_lt_of_cell? w _ hx139_2)).trans hx139_2
                      replace p139 := eq_true p139
                      replace q139 := eq_true q139
                      try go_wp2
                      have n0_ := Aside0.mk (Kd.R_drew HO_4.out)
                      have n1_ := Aside0.mk (blk_drew BK137.out)
                      have n2_ := Aside0.mk (below_drew1 HB.out)
                      clear HO_4
                      clear BK137
                      clear HB
                      have HO_4 := n0_
                      have BK137 := n1_
                      have HB := n2_
                      clear n0_ n1_ n2_
                      have p140 : 0 ≤ (x5_1 : Int) := of_decide_eq_true (by first | (with_reducible assumption) | assumption)
                      have q140 : x5_1 < (l0.length : Int) := of_decide_eq_true (by first | (with_reducible assumption) | assumption)
                      obtain ⟨ad140, e140, hx140_0, hx140_1, hx140_2⟩ := at_T31 HR0.out x5_1 p140 q140
                      have hw140_2 := hx140_2
                      have hw140_1 := hx140_1
                      have hw140_0 := hx140_0
                      obtain rfl : ad138 = ad140 := (by injection e140)
                      replace hx140_0 := (HB.out.cell (World.block_lt_of_cell? w _ hx140_0)).trans hx140_0
                      replace hx140_1 := (HB.out.cell (World.block_lt_of_cell? w _ hx140_1)).trans hx140_1
                      replace hx140_2 := (HB.out.cell (World.block_lt_of_cell? w _ hx140_2)).trans hx140_2
                      replace p140 := eq_true p140
                      replace q140 := eq_true q140
                      have p141 : 0 ≤ (x5_1 : Int) := of_decide_eq_true (by first | (with_reducible assumption) | assumption)
                      have q141 : x5_1 < (l0.length : Int) := of_decide_eq_true (by first | (with_reducible assumption) | assumption)
                      obtain ⟨ad141, e141, hx141_0, hx141_1, hx141_2⟩ := at_T31 HR0.out x5_1 p141 q141
                      have hw141_2 := hx141_2
                      have hw141_1 := hx141_1
                      have hw141_0 := hx141_0
                      obtain rfl : ad138 = ad141 := (by injection e141)
                      replace hx141_0 := (HB.out.cell (World.block_lt_of_cell? w _ hx141_0)).trans hx141_0
                      replace hx141_1 := (HB.out.cell (World.block_lt_of_cell? w _ hx141_1)).trans hx141_1
                      replace hx141_2 := (HB.out.cell (World.block_lt_of_cell? w _ hx141_2)).trans hx141_2
                      replace p141 := eq_true p141
                      replace q141 := eq_true q141
                      refine start_ (n := 29) (S := fun w' => w'.cell? (ad138.add ((x5_1).toNat * 3)) = some (.int .i64 ((rd_T31 l0 x5_1).f0)) ∧ w'.cell? ⟨(ad138.add ((x5_1).toNat * 3)).block, (ad138.add ((x5_1).toNat * 3)).off + 1, none⟩ = some (.int .i64 ((rd_T31 l0 x5_1).f1)) ∧ w'.cell? ⟨(ad138.add ((x5_1).toNat * 3)).block, (ad138.add ((x5_1).toNat * 3)).off + 2, none⟩ = some (.int .i64 ((rd_T31 l0 x5_1).f2)) ∧ w'.cell? (ad138.add ((x5_1).toNat * 3)) = some (.int .i64 ((rd_T31 l0 x5_1).f0)) ∧ w'.cell? ⟨(ad138.add ((x5_1).toNat * 3)).block, (ad138.add ((x5_1).toNat * 3)).off + 1, none⟩ = some (.int .i64 ((rd_T31 l0 x5_1).f1)) ∧ w'.cell? ⟨(ad138.add ((x5_1).toNat * 3)).block, (ad138.add ((x5_1).toNat * 3)).off + 2, none⟩ = some (.int .i64 ((rd_T31 l0 x5_1).f2))) (ds := []) #[false, false, false, false, false, false, false, false, false, false, false, false, false, false, false, false, false, false, false, false, false, false, false, false, false, false, false, false, false] (by kernel_rfl) rfl rfl ⟨((HB.out.cell (World.block_lt_of_cell? w _ hw140_0)).trans hw140_0), ((HB.out.cell (World.block_lt_of_cell? w _ hw140_1)).trans hw140_1), ((HB.out.cell (World.block_lt_of_cell? w _ hw140_2)).trans hw140_2), ((HB.out.cell (World.block_lt_of_cell? w _ hw141_0)).trans hw141_0), ((HB.out.cell (World.block_lt_of_cell? w _ hw141_1)).trans hw141_1), ((HB.out.cell (World.block_lt_of_cell? w _ hw141_2)).trans hw141_2)⟩ (fun hHeld => ?_); refine with_tabW horariumlaw12_made.tab8 horariumlaw12_made.bits8 (fun HT_ HW_ => ?_)
                      generalize wr.drew = w14 at HO_4 BK137 HB hx140_0 hx140_1 hx140_2 hx141_0 hx141_1 hx141_2 hHeld ⊢
                      refine pure_ (i := 0) (N := some 39) (v := ?_) (a' := ?_) #[true, false, false, false, false, false, false, false, false, false, false, false, false, false, false, false, false, false, false, false, false, false, false, false, false, false, false, false, false] rfl rfl (any_of HT_.out (by kernel_rfl)) (fun _ _ _ h => h) (Or.inl ⟨by rfl, ?_⟩) ?_ ?_
                      rotate_left
                      · intro w'
                        go_simp
                        with_reducible rfl
                      rotate_left
                      · simp only [Act.put, List.setIfInBounds_toArray, List.set_cons_zero, List.set_cons_succ, i64_w, i32_w]
                        rfl
                      refine pure_ (i := 1) (N := some 40) (v := ?_) (a' := ?_) #[true, true, false, false, false, false, false, false, false, false, false, false, false, false, false, false, false, false, false, false, false, false, false, false, false, false, false, false, false] rfl rfl (any_of HT_.out (by kernel_rfl)) (fun _ _ _ h => h) (Or.inl ⟨by rfl, ?_⟩) ?_ ?_
                      rotate_left
                      · intro w'
                        go_simp
                        with_reducible rfl
                      rotate_left
                      · simp only [Act.put, List.setIfInBounds_toArray, List.set_cons_zero, List.set_cons_succ, i64_w, i32_w]
                        rfl
                      refine pure_ (i := 2) (N := some 41) (v := ?_) (a' := ?_) #[true, true, true, false, false, false, false, false, false, false, false, false, false, false, false, false, false, false, false, false, false, false, false, false, false, false, false, false, false] rfl rfl (any_of HT_.out (by kernel_rfl)) (fun _ _ _ h => h) (Or.inl ⟨by rfl, ?_⟩) ?_ ?_
                      rotate_left
                      · intro w'
                        go_simp
                        with_reducible rfl
                      rotate_left
                      · simp only [Act.put, List.setIfInBounds_toArray, List.set_cons_zero, List.set_cons_succ, i64_w, i32_w]
                        rfl
                      refine pure_ (i := 3) (N := some 42) (v := ?_) (a' := ?_) #[true, true, true, true, false, false, false, false, false, false, false, false, false, false, false, false, false, false, false, false, false, false, false, false, false, false, false, false, false] rfl rfl (any_of HT_.out (by kernel_rfl)) (fun _ _ _ h => h) (Or.inl ⟨by rfl, ?_⟩) ?_ ?_
                      rotate_left
                      · intro w'
                        go_simp
                        with_reducible rfl
                      rotate_left
                      · simp only [Act.put, List.setIfInBounds_toArray, List.set_cons_zero, List.set_cons_succ, i64_w, i32_w]
                        rfl
                      refine pure_ (i := 4) (N := some 43) (v := ?_) (a' := ?_) #[true, true, true, true, true, false, false, false, false, false, false, false, false, false, false, false, false, false, false, false, false, false, false, false, false, false, false, false, false] rfl rfl (any_of HT_.out (by kernel_rfl)) (fun _ _ _ h => h) (Or.inl ⟨by rfl, ?_⟩) ?_ ?_
                      rotate_left
                      · intro w'
                        go_simp
                        with_reducible rfl
                      rotate_left
                      · simp only [Act.put, List.setIfInBounds_toArray, List.set_cons_zero, List.set_cons_succ, i64_w, i32_w]
                        rfl
                      refine pure_ (i := 5) (N := some 44) (v := ?_) (a' := ?_) #[true, true, true, true, true, true, false, false, false, false, false, false, false, false, false, false, false, false, false, false, false, false, false, false, false, false, false, false, false] rfl rfl (any_of HT_.out (by kernel_rfl)) (fun _ _ _ h => h) (Or.inl ⟨by rfl, ?_⟩) ?_ ?_
                      rotate_left
                      · intro w'
                        go_simp
                        with_reducible rfl
                      rotate_left
                      · simp only [Act.put, List.setIfInBounds_toArray, List.set_cons_zero, List.set_cons_succ, i64_w, i32_w]
                        rfl
                      refine pure_ (i := 7) (N := some 46) (v := ?_) (a' := ?_) #[true, true, true, true, true, true, false, true, false, false, false, false, false, false, false, false, false, false, false, false, false, false, false, false, false, false, false, false, false] rfl rfl (any_of HT_.out (by kernel_rfl)) (fun _ _ _ h => h) (Or.inl ⟨by rfl, ?_⟩) ?_ ?_
                      rotate_left
                      · intro w'
                        go_simp
                        with_reducible rfl
                      rotate_left
                      · simp only [Act.put, List.setIfInBounds_toArray, List.set_cons_zero, List.set_cons_succ, i64_w, i32_w]
                        rfl
                      refine pure_ (i := 9) (N := some 48) (v := ?_) (a' := ?_) #[true, true, true, true, true, true, false, true, false, true, false, false, false, false, false, false, false, false, false, false, false, false, false, false, false, false, false, false, false] rfl rfl (any_of HT_.out (by kernel_rfl)) (fun _ _ _ h => h) (Or.inl ⟨by rfl, ?_⟩) ?_ ?_
                      rotate_left
                      · intro w'
                        go_simp
                        with_reducible rfl
                      rotate_left
                      · simp only [Act.put, List.setIfInBounds_toArray, List.set_cons_zero, List.set_cons_succ, i64_w, i32_w]
                        rfl
                      refine pure_ (i := 11) (N := some 50) (v := ?_) (a' := ?_) #[true, true, true, true, true, true, false, true, false, true, false, true, false, false, false, false, false, false, false, false, false, false, false, false, false, false, false, false, false] rfl rfl (any_of HT_.out (by kernel_rfl)) (fun _ _ _ h => h) (Or.inl ⟨by rfl, ?_⟩) ?_ ?_
                      rotate_left
                      · intro w'
                        go_simp
                        with_reducible rfl
                      rotate_left
                      · simp only [Act.put, List.setIfInBounds_toArray, List.set_cons_zero, List.set_cons_succ, i64_w, i32_w]
                        rfl
                      refine pure_ (i := 14) (N := some 53) (v := ?_) (a' := ?_) #[true, true, true, true, true, true, false, true, false, true, false, true, false, false, true, false, false, false, false, false, false, false, false, false, false, false, false, false, false] rfl rfl (any_of HT_.out (by kernel_rfl)) (fun _ _ _ h => h) (Or.inl ⟨by rfl, ?_⟩) ?_ ?_
                      rotate_left
                      · intro w'
                        go_simp
                        with_reducible rfl
                      rotate_left
                      · simp only [Act.put, List.setIfInBounds_toArray, List.set_cons_zero, List.set_cons_succ, i64_w, i32_w]
                        rfl
                      refine pure_ (i := 15) (N := some 54) (v := ?_) (a' := ?_) #[true, true, true, true, true, true, false, true, false, true, false, true, false, false, true, true, false, false, false, false, false, false, false, false, false, false, false, false, false] rfl rfl (any_of HT_.out (by kernel_rfl)) (fun _ _ _ h => h) (Or.inl ⟨by rfl, ?_⟩) ?_ ?_
                      rotate_left
                      · intro w'
                        go_simp
                        with_reducible rfl
                      rotate_left
                      · simp only [Act.put, List.setIfInBounds_toArray, List.set_cons_zero, List.set_cons_succ, i64_w, i32_w]
                        rfl
                      refine pure_ (i := 16) (N := some 55) (v := ?_) (a' := ?_) #[true, true, true, true, true, true, false, true, false, true, false, true, false, false, true, true, true, false, false, false, false, false, false, false, false, false, false, false, false] rfl rfl (any_of HT_.out (by kernel_rfl)) (fun _ _ _ h => h) (Or.inl ⟨by rfl, ?_⟩) ?_ ?_
                      rotate_left
                      · intro w'
                        go_simp
                        with_reducible rfl
                      rotate_left
                      · simp only [Act.put, List.setIfInBounds_toArray, List.set_cons_zero, List.set_cons_succ, i64_w, i32_w]
                        rfl
                      refine pure_ (i := 17) (N := some 56) (v := ?_) (a' := ?_) #[true, true, true, true, true, true, false, true, false, true, false, true, false, false, true, true, true, true, false, false, false, false, false, false, false, false, false, false, false] rfl rfl (any_of HT_.out (by kernel_rfl)) (fun _ _ _ h => h) (Or.inl ⟨by rfl, ?_⟩) ?_ ?_
                      rotate_left
                      · intro w'
                        go_simp
                        with_reducible rfl
                      rotate_left
                      · simp only [Act.put, List.setIfInBounds_toArray, List.set_cons_zero, List.set_cons_succ, i64_w, i32_w]
                        rfl
                      refine pure_ (i := 18) (N := some 57) (v := ?_) (a' := ?_) #[true, true, true, true, true, true, false, true, false, true, false, true, false, false, true, true, true, true, true, false, false, false, false, false, false, false, false, false, false] rfl rfl (any_of HT_.out (by kernel_rfl)) (fun _ _ _ h => h) (Or.inl ⟨by rfl, ?_⟩) ?_ ?_
                      rotate_left
                      · intro w'
                        go_simp
                        with_reducible rfl
                      rotate_left
                      · simp only [Act.put, List.setIfInBounds_toArray, List.set_cons_zero, List.set_cons_succ, i64_w, i32_w]
                        rfl
                      refine pure_ (i := 19) (N := some 58) (v := ?_) (a' := ?_) #[true, true, true, true, true, true, false, true, false, true, false, true, false, false, true, true, true, true, true, true, false, false, false, false, false, false, false, false, false] rfl rfl (any_of HT_.out (by kernel_rfl)) (fun _ _ _ h => h) (Or.inl ⟨by rfl, ?_⟩) ?_ ?_
                      rotate_left
                      · intro w'
                        go_simp
                        with_reducible rfl
                      rotate_left
                      · simp only [Act.put, List.setIfInBounds_toArray, List.set_cons_zero, List.set_cons_succ, i64_w, i32_w]
                        rfl
                      refine take_ (i := 6) (N := some 45) (v := ?_) (a' := ?_) #[true, true, true, true, true, true, true, true, false, true, false, true, false, false, true, true, true, true, true, true, false, false, false, false, false, false, false, false, false] rfl rfl (take_ofW HT_.out HW_.out (by kernel_rfl)) (fun _ _ _ h => h) (Or.inl ⟨by rfl, ?_⟩) hHeld ?_ ?_
                      rotate_left
                      · rintro w' ⟨s0, s1, s2, s3, s4, s5⟩
                        go_simp
                        with_reducible rfl
                      rotate_left
                      · simp only [Act.put, List.setIfInBounds_toArray, List.set_cons_zero, List.set_cons_succ, i64_w, i32_w]
                        rfl
                      refine pure_ (i := 8) (N := some 47) (v := ?_) (a' := ?_) #[true, true, true, true, true, true, true, true, true, true, false, true, false, false, true, true, true, true, true, true, false, false, false, false, false, false, false, false, false] rfl rfl (any_of HT_.out (by kernel_rfl)) (fun _ _ _ h => h) (Or.inl ⟨by rfl, ?_⟩) ?_ ?_
                      rotate_left
                      · intro w'
                        go_simp
                        with_reducible rfl
                      rotate_left
                      · simp only [Act.put, List.setIfInBounds_toArray, List.set_cons_zero, List.set_cons_succ, i64_w, i32_w]
                        rfl
                      refine pure_ (i := 10) (N := some 49) (v := ?_) (a' := ?_) #[true, true, true, true, true, true, true, true, true, true, true, true, false, false, true, true, true, true, true, true, false, false, false, false, false, false, false, false, false] rfl rfl (any_of HT_.out (by kernel_rfl)) (fun _ _ _ h => h) (Or.inl ⟨by rfl, ?_⟩) ?_ ?_
                      rotate_left
                      · intro w'
                        go_simp
                        with_reducible rfl
                      rotate_left
                      · simp only [Act.put, List.setIfInBounds_toArray, List.set_cons_zero, List.set_cons_succ, i64_w, i32_w]
                        rfl
                      refine pure_ (i := 12) (N := some 51) (v := ?_) (a' := ?_) #[true, true, true, true, true, true, true, true, true, true, true, true, true, false, true, true, true, true, true, true, false, false, false, false, false, false, false, false, false] rfl rfl (any_of HT_.out (by kernel_rfl)) (fun _ _ _ h => h) (Or.inl ⟨by rfl, ?_⟩) ?_ ?_
                      rotate_left
                      · intro w'
                        go_simp
                        with_reducible rfl
                      rotate_left
                      · simp only [Act.put, List.setIfInBounds_toArray, List.set_cons_zero, List.set_cons_succ, i64_w, i32_w]
                        rfl
                      refine pure_ (i := 13) (N := some 52) (v := ?_) (a' := ?_) #[true, true, true, true, true, true, true, true, true, true, true, true, true, true, true, true, true, true, true, true, false, false, false, false, false, false, false, false, false] rfl rfl (any_of HT_.out (by kernel_rfl)) (fun _ _ _ h => h) (Or.inl ⟨by rfl, ?_⟩) ?_ ?_
                      rotate_left
                      · intro w'
                        go_simp
                        with_reducible rfl
                      rotate_left
                      · simp only [Act.put, List.setIfInBounds_toArray, List.set_cons_zero, List.set_cons_succ, i64_w, i32_w]
                        rfl
                      refine take_ (i := 20) (N := some 59) (v := ?_) (a' := ?_) #[true, true, true, true, true, true, true, true, true, true, true, true, true, true, true, true, true, true, true, true, true, false, false, false, false, false, false, false, false] rfl rfl (take_ofW HT_.out HW_.out (by kernel_rfl)) (fun _ _ _ h => h) (Or.inl ⟨by rfl, ?_⟩) hHeld ?_ ?_
                      rotate_left
                      · rintro w' ⟨s0, s1, s2, s3, s4, s5⟩
                        go_simp
                        with_reducible rfl
                      rotate_left
                      · simp only [Act.put, List.setIfInBounds_toArray, List.set_cons_zero, List.set_cons_succ, i64_w, i32_w]
                        rfl
                      refine pure_ (i := 21) (N := some 60) (v := ?_) (a' := ?_) #[true, true, true, true, true, true, true, true, true, true, true, true, true, true, true, true, true, true, true, true, true, true, false, false, false, false, false, false, false] rfl rfl (any_of HT_.out (by kernel_rfl)) (fun _ _ _ h => h) (Or.inl ⟨by rfl, ?_⟩) ?_ ?_
                      rotate_left
                      · intro w'
                        go_simp
                        with_reducible rfl
                      rotate_left
                      · simp only [Act.put, List.setIfInBounds_toArray, List.set_cons_zero, List.set_cons_succ, i64_w, i32_w]
                        rfl
                      refine pure_ (i := 22) (N := some 61) (v := ?_) (a' := ?_) #[true, true, true, true, true, true, true, true, true, true, true, true, true, true, true, true, true, true, true, true, true, true, true, false, false, false, false, false, false] rfl rfl (any_of HT_.out (by kernel_rfl)) (fun _ _ _ h => h) (Or.inl ⟨by rfl, ?_⟩) ?_ ?_
                      rotate_left
                      · intro w'
                        go_simp
                        with_reducible rfl
                      rotate_left
                      · simp only [Act.put, List.setIfInBounds_toArray, List.set_cons_zero, List.set_cons_succ, i64_w, i32_w]
                        rfl
                      refine pure_ (i := 23) (N := some 62) (v := ?_) (a' := ?_) #[true, true, true, true, true, true, true, true, true, true, true, true, true, true, true, true, true, true, true, true, true, true, true, true, false, false, false, false, false] rfl rfl (any_of HT_.out (by kernel_rfl)) (fun _ _ _ h => h) (Or.inl ⟨by rfl, ?_⟩) ?_ ?_
                      rotate_left
                      · intro w'
                        go_simp
                        with_reducible rfl
                      rotate_left
                      · simp only [Act.put, List.setIfInBounds_toArray, List.set_cons_zero, List.set_cons_succ, i64_w, i32_w]
                        rfl
                      refine pure_ (i := 24) (N := some 63) (v := ?_) (a' := ?_) #[true, true, true, true, true, true, true, true, true, true, true, true, true, true, true, true, true, true, true, true, true, true, true, true, true, false, false, false, false] rfl rfl (any_of HT_.out (by kernel_rfl)) (fun _ _ _ h => h) (Or.inl ⟨by rfl, ?_⟩) ?_ ?_
                      rotate_left
                      · intro w'
                        go_simp
                        with_reducible rfl
                      rotate_left
                      · simp only [Act.put, List.setIfInBounds_toArray, List.set_cons_zero, List.set_cons_succ, i64_w, i32_w]
                        rfl
                      refine pure_ (i := 25) (N := some 64) (v := ?_) (a' := ?_) #[true, true, true, true, true, true, true, true, true, true, true, true, true, true, true, true, true, true, true, true, true, true, true, true, true, true, false, false, false] rfl rfl (any_of HT_.out (by kernel_rfl)) (fun _ _ _ h => h) (Or.inl ⟨by rfl, ?_⟩) ?_ ?_
                      rotate_left
                      · intro w'
                        go_simp
                        with_reducible rfl
                      rotate_left
                      · simp only [Act.put, List.setIfInBounds_toArray, List.set_cons_zero, List.set_cons_succ, i64_w, i32_w]
                        rfl
                      refine one_ (i := 26) (N := some 65) #[true, true, true, true, true, true, true, true, true, true, true, true, true, true, true, true, true, true, true, true, true, true, true, true, true, true, true, false, false] rfl rfl (one_of HT_.out (by kernel_rfl)) (by decide) (fun K hK => ?_)
                      refine value_ (w1 := ?_) (v := ?_) (by rfl) rfl ?_ ?_
                      rotate_left 2
                      · go_simp
                        constructor
                        · rfl
                        · rfl
                      refine hK.out _ _ ⟨(World.cell?_alloc_lt _ _ _ (World.block_lt_of_cell? _ _ (((HB.out.cell (World.block_lt_of_cell? w _ hw140_0)).trans hw140_0)))).trans (((HB.out.cell (World.block_lt_of_cell? w _ hw140_0)).trans hw140_0)), (World.cell?_alloc_lt _ _ _ (World.block_lt_of_cell? _ _ (((HB.out.cell (World.block_lt_of_cell? w _ hw140_1)).trans hw140_1)))).trans (((HB.out.cell (World.block_lt_of_cell? w _ hw140_1)).trans hw140_1)), (World.cell?_alloc_lt _ _ _ (World.block_lt_of_cell? _ _ (((HB.out.cell (World.block_lt_of_cell? w _ hw140_2)).trans hw140_2)))).trans (((HB.out.cell (World.block_lt_of_cell? w _ hw140_2)).trans hw140_2)), (World.cell?_alloc_lt _ _ _ (World.block_lt_of_cell? _ _ (((HB.out.cell (World.block_lt_of_cell? w _ hw141_0)).trans hw141_0)))).trans (((HB.out.cell (World.block_lt_of_cell? w _ hw141_0)).trans hw141_0)), (World.cell?_alloc_lt _ _ _ (World.block_lt_of_cell? _ _ (((HB.out.cell (World.block_lt_of_cell? w _ hw141_1)).trans hw141_1)))).trans (((HB.out.cell (World.block_lt_of_cell? w _ hw141_1)).trans hw141_1)), (World.cell?_alloc_lt _ _ _ (World.block_lt_of_cell? _ _ (((HB.out.cell (World.block_lt_of_cell? w _ hw141_2)).trans hw141_2)))).trans (((HB.out.cell (World.block_lt_of_cell? w _ hw141_2)).trans hw141_2))⟩ (fun hHeld => ?_)
                      clear hK K
                      refine norm_ (a' := ?_) ?_ ?_
                      rotate_left
                      · show Act.put _ (some 65) _ = _
                        simp only [Act.put, List.setIfInBounds_toArray, List.set_cons_zero, List.set_cons_succ, i64_w, i32_w]
                        rfl
                      refine one_ (i := 27) (N := some 66) #[true, true, true, true, true, true, true, true, true, true, true, true, true, true, true, true, true, true, true, true, true, true, true, true, true, true, true, true, false] rfl rfl (one_of HT_.out (by kernel_rfl)) (by decide) (fun K hK => ?_)
                      refine Kd.R_append_step k28 (w0 := w) w.heap.size (by rfl) (.tmp 39) (.tmp 65) 24 28 (.agg #[(.int .i64 0), (.int .i64 0), (.int .i64 0), (.int .i64 0), (.int .i64 0)]) 40 rfl Try.underlying24 info28 rfl (by decide) (by omega) u4 x4_1 (⟨x5_1, wrap64 (1 + (Int.tmod (wrap64 ((Int.tmod ((rd_T31 l0 x5_1).f0) (wrap64 (1 + (Int.tmod (wrap64 ((Int.tmod ((rd_T31 l0 x5_1).f1) (rd [2, 3, 4, 5, 6, 8, 10, 12] (Go.bits .and .i64 ((rd_T31 l0 x5_1).f2) 7))) + (rd [2, 3, 4, 5, 6, 8, 10, 12] (Go.bits .and .i64 ((rd_T31 l0 x5_1).f2) 7)))) (rd [2, 3, 4, 5, 6, 8, 10, 12] (Go.bits .and .i64 ((rd_T31 l0 x5_1).f2) 7)))))) + (wrap64 (1 + (Int.tmod (wrap64 ((Int.tmod ((rd_T31 l0 x5_1).f1) (rd [2, 3, 4, 5, 6, 8, 10, 12] (Go.bits .and .i64 ((rd_T31 l0 x5_1).f2) 7))) + (rd [2, 3, 4, 5, 6, 8, 10, 12] (Go.bits .and .i64 ((rd_T31 l0 x5_1).f2) 7)))) (rd [2, 3, 4, 5, 6, 8, 10, 12] (Go.bits .and .i64 ((rd_T31 l0 x5_1).f2) 7))))))) (wrap64 (1 + (Int.tmod (wrap64 ((Int.tmod ((rd_T31 l0 x5_1).f1) (rd [2, 3, 4, 5, 6, 8, 10, 12] (Go.bits .and .i64 ((rd_T31 l0 x5_1).f2) 7))) + (rd [2, 3, 4, 5, 6, 8, 10, 12] (Go.bits .and .i64 ((rd_T31 l0 x5_1).f2) 7)))) (rd [2, 3, 4, 5, 6, 8, 10, 12] (Go.bits .and .i64 ((rd_T31 l0 x5_1).f2) 7))))))), wrap64 (1 + (Int.tmod (wrap64 ((Int.tmod ((rd_T31 l0 x5_1).f1) (rd [2, 3, 4, 5, 6, 8, 10, 12] (Go.bits .and .i64 ((rd_T31 l0 x5_1).f2) 7))) + (rd [2, 3, 4, 5, 6, 8, 10, 12] (Go.bits .and .i64 ((rd_T31 l0 x5_1).f2) 7)))) (rd [2, 3, 4, 5, 6, 8, 10, 12] (Go.bits .and .i64 ((rd_T31 l0 x5_1).f2) 7)))), rd [2, 3, 4, 5, 6, 8, 10, 12] (Go.bits .and .i64 ((rd_T31 l0 x5_1).f2) 7), wrap64 (1 + (Int.tmod (Go.bits .and .i64 (((rd_T31 l0 x5_1).f2) / 8) 15) 15))⟩ : S28) [.int .i64 x5_1, .int .i64 (wrap64 (1 + (Int.tmod (wrap64 ((Int.tmod ((rd_T31 l0 x5_1).f0) (wrap64 (1 + (Int.tmod (wrap64 ((Int.tmod ((rd_T31 l0 x5_1).f1) (rd [2, 3, 4, 5, 6, 8, 10, 12] (Go.bits .and .i64 ((rd_T31 l0 x5_1).f2) 7))) + (rd [2, 3, 4, 5, 6, 8, 10, 12] (Go.bits .and .i64 ((rd_T31 l0 x5_1).f2) 7)))) (rd [2, 3, 4, 5, 6, 8, 10, 12] (Go.bits .and .i64 ((rd_T31 l0 x5_1).f2) 7)))))) + (wrap64 (1 + (Int.tmod (wrap64 ((Int.tmod ((rd_T31 l0 x5_1).f1) (rd [2, 3, 4, 5, 6, 8, 10, 12] (Go.bits .and .i64 ((rd_T31 l0 x5_1).f2) 7))) + (rd [2, 3, 4, 5, 6, 8, 10, 12] (Go.bits .and .i64 ((rd_T31 l0 x5_1).f2) 7)))) (rd [2, 3, 4, 5, 6, 8, 10, 12] (Go.bits .and .i64 ((rd_T31 l0 x5_1).f2) 7))))))) (wrap64 (1 + (Int.tmod (wrap64 ((Int.tmod ((rd_T31 l0 x5_1).f1) (rd [2, 3, 4, 5, 6, 8, 10, 12] (Go.bits .and .i64 ((rd_T31 l0 x5_1).f2) 7))) + (rd [2, 3, 4, 5, 6, 8, 10, 12] (Go.bits .and .i64 ((rd_T31 l0 x5_1).f2) 7)))) (rd [2, 3, 4, 5, 6, 8, 10, 12] (Go.bits .and .i64 ((rd_T31 l0 x5_1).f2) 7)))))))), .int .i64 (wrap64 (1 + (Int.tmod (wrap64 ((Int.tmod ((rd_T31 l0 x5_1).f1) (rd [2, 3, 4, 5, 6, 8, 10, 12] (Go.bits .and .i64 ((rd_T31 l0 x5_1).f2) 7))) + (rd [2, 3, 4, 5, 6, 8, 10, 12] (Go.bits .and .i64 ((rd_T31 l0 x5_1).f2) 7)))) (rd [2, 3, 4, 5, 6, 8, 10, 12] (Go.bits .and .i64 ((rd_T31 l0 x5_1).f2) 7))))), .int .i64 (rd [2, 3, 4, 5, 6, 8, 10, 12] (Go.bits .and .i64 ((rd_T31 l0 x5_1).f2) 7)), .int .i64 (wrap64 (1 + (Int.tmod (Go.bits .and .i64 (((rd_T31 l0 x5_1).f2) / 8) 15) 15)))] (fun _ => True) (fun _ => False) rfl rfl ?aP (fun _ hk => hk.elim) ?aF ?aO ?aB ?aS ?aL ?_
                      (case aP => exact k28_mkM _ _ _ (⟨x5_1, wrap64 (1 + (Int.tmod (wrap64 ((Int.tmod ((rd_T31 l0 x5_1).f0) (wrap64 (1 + (Int.tmod (wrap64 ((Int.tmod ((rd_T31 l0 x5_1).f1) (rd [2, 3, 4, 5, 6, 8, 10, 12] (Go.bits .and .i64 ((rd_T31 l0 x5_1).f2) 7))) + (rd [2, 3, 4, 5, 6, 8, 10, 12] (Go.bits .and .i64 ((rd_T31 l0 x5_1).f2) 7)))) (rd [2, 3, 4, 5, 6, 8, 10, 12] (Go.bits .and .i64 ((rd_T31 l0 x5_1).f2) 7)))))) + (wrap64 (1 + (Int.tmod (wrap64 ((Int.tmod ((rd_T31 l0 x5_1).f1) (rd [2, 3, 4, 5, 6, 8, 10, 12] (Go.bits .and .i64 ((rd_T31 l0 x5_1).f2) 7))) + (rd [2, 3, 4, 5, 6, 8, 10, 12] (Go.bits .and .i64 ((rd_T31 l0 x5_1).f2) 7)))) (rd [2, 3, 4, 5, 6, 8, 10, 12] (Go.bits .and .i64 ((rd_T31 l0 x5_1).f2) 7))))))) (wrap64 (1 + (Int.tmod (wrap64 ((Int.tmod ((rd_T31 l0 x5_1).f1) (rd [2, 3, 4, 5, 6, 8, 10, 12] (Go.bits .and .i64 ((rd_T31 l0 x5_1).f2) 7))) + (rd [2, 3, 4, 5, 6, 8, 10, 12] (Go.bits .and .i64 ((rd_T31 l0 x5_1).f2) 7)))) (rd [2, 3, 4, 5, 6, 8, 10, 12] (Go.bits .and .i64 ((rd_T31 l0 x5_1).f2) 7))))))), wrap64 (1 + (Int.tmod (wrap64 ((Int.tmod ((rd_T31 l0 x5_1).f1) (rd [2, 3, 4, 5, 6, 8, 10, 12] (Go.bits .and .i64 ((rd_T31 l0 x5_1).f2) 7))) + (rd [2, 3, 4, 5, 6, 8, 10, 12] (Go.bits .and .i64 ((rd_T31 l0 x5_1).f2) 7)))) (rd [2, 3, 4, 5, 6, 8, 10, 12] (Go.bits .and .i64 ((rd_T31 l0 x5_1).f2) 7)))), rd [2, 3, 4, 5, 6, 8, 10, 12] (Go.bits .and .i64 ((rd_T31 l0 x5_1).f2) 7), wrap64 (1 + (Int.tmod (Go.bits .and .i64 (((rd_T31 l0 x5_1).f2) / 8) 15) 15))⟩ : S28))
                      (case aB => exact (by repeat (first | (with_reducible first | exact HB.out | apply below_alloc | apply pw_below_drewN | apply below_drew1 | refine below_set ?_ GE137.out) | exact HB.out)))
                      (case aF => exact (fun _ _ => trivial))
                      (case aO => exact (by (with_reducible repeat (first | apply Kd.R_alloc | apply Kd.R_drewN | apply Kd.R_drew)); exact HO_4.out))
                      (case aS => exact (below_size (by repeat (first | (with_reducible first | exact HB.out | apply below_alloc | apply pw_below_drewN | apply below_drew1 | refine below_set ?_ GE137.out) | exact HB.out))))
                      (case aL => have := LMc11.out; omega)
                      intro v143 w15 ho hb hg hat
                      rw [← Ny142.out] at ho
                      have n0_ := Aside0.mk (blk_grown (g := gb137) (o := .cells #[.int .i64 2, .int .i64 3, .int .i64 4, .int .i64 5, .int .i64 6, .int .i64 8, .int .i64 10, .int .i64 12] 54 (0, 0)) (by (with_reducible repeat (first | refine blk_drewN ?_ _ | refine blk_drew ?_ | refine blk_alloc ?_ _)); exact BK137.out) hg (Kd.R_ne HO_4.out BK137.out (by decide)))
                      have n1_ := Aside0.mk (hb)
                      have n2_ := Aside0.mk (ho)
                      clear BK137
                      clear HB
                      clear HO_4
                      have BK137 := n0_
                      have HB := n1_
                      have HO144 := n2_
                      clear n0_ n1_ n2_
                      clear ho hb hg hat
                      refine hK.out _ _ ⟨((HB.out.cell (World.block_lt_of_cell? w _ hw140_0)).trans hw140_0), ((HB.out.cell (World.block_lt_of_cell? w _ hw140_1)).trans hw140_1), ((HB.out.cell (World.block_lt_of_cell? w _ hw140_2)).trans hw140_2), ((HB.out.cell (World.block_lt_of_cell? w _ hw141_0)).trans hw141_0), ((HB.out.cell (World.block_lt_of_cell? w _ hw141_1)).trans hw141_1), ((HB.out.cell (World.block_lt_of_cell? w _ hw141_2)).trans hw141_2)⟩ (fun hHeld => ?_)
                      clear hK K
                      refine norm_ (a' := ?_) ?_ ?_
                      rotate_left
                      · show Act.put _ (some 66) _ = _
                        simp only [Act.put, List.setIfInBounds_toArray, List.set_cons_zero, List.set_cons_succ, i64_w, i32_w]
                        rfl
                      refine pure_ (i := 28) (N := some 4) (v := ?_) (a' := ?_) #[true, true, true, true, true, true, true, true, true, true, true, true, true, true, true, true, true, true, true, true, true, true, true, true, true, true, true, true, true] rfl rfl (any_of HT_.out (by kernel_rfl)) (fun _ _ _ h => h) (Or.inl ⟨by rfl, ?_⟩) ?_ ?_
                      rotate_left
                      · intro w'
                        go_simp
                        with_reducible rfl
                      rotate_left
                      · simp only [Act.put, List.setIfInBounds_toArray, List.set_cons_zero, List.set_cons_succ, i64_w, i32_w]
                        rfl
                      refine done_ (done_of HT_.out (by kernel_rfl)) ?_
                      try go_wp2
                      go_roundg k1
                      case measure => have := HK1.out; omega
                      case rel => exact ⟨(y142), (wrap64 (x5_1 + 1)), (by first | rfl | (simp; done) | (simp [*]; done)), H', ⟨by have := HK1.out; omega⟩, ⟨by (with_reducible repeat (first | apply Kd.R_alloc | apply Kd.R_drewN | apply Kd.R_drew)); exact HO144.out⟩, ⟨by (with_reducible repeat (first | refine blk_drewN ?_ _ | refine blk_drew ?_ | refine blk_alloc ?_ _)); exact BK137.out⟩, ⟨by repeat (first | (with_reducible first | exact HB.out | apply below_alloc | apply pw_below_drewN | apply below_drew1 | refine below_set ?_ GE137.out) | exact HB.out)⟩⟩
                    · rw [if_neg c11] at H
                      exact absurd H (by simp)
              · rw [if_neg c8] at H
                exact absurd H (by simp)
            · rw [if_neg c7] at H
              exact absurd H (by simp)
          · rw [if_neg c6] at H
            exact absurd H (by simp)
        · rw [if_neg c5] at H
          have c5b0 : decide (x5_1 < 8) = false := decide_eq_false c5
          clear c5
          obtain rfl := Option.some.inj H
          go_wp2
          go_ret
          exact ⟨_, by first | rfl | (simp [errW_none, errW_some] <;> rfl) | (simp [*, errW_none, errW_some] <;> rfl), by (with_reducible repeat (first | apply Kd.R_alloc | apply Kd.R_drewN | apply Kd.R_drew)); exact HO_4.out, by repeat (first | (with_reducible first | exact HB.out | apply below_alloc | apply pw_below_drewN | apply below_drew1 | refine below_set ?_ GE137.out) | exact HB.out)⟩
      · rw [if_neg c4] at H
        have c4b0 : decide (x5_1 < (l0.length : Int)) = false := decide_eq_false c4
        clear c4
        obtain rfl := Option.some.inj H
        go_wp2
        go_ret
        exact ⟨_, by first | rfl | (simp [errW_none, errW_some] <;> rfl) | (simp [*, errW_none, errW_some] <;> rfl), by (with_reducible repeat (first | apply Kd.R_alloc | apply Kd.R_drewN | apply Kd.R_drew)); exact HO_4.out, by repeat (first | (with_reducible first | exact HB.out | apply below_alloc | apply pw_below_drewN | apply below_drew1 | refine below_set ?_ GE137.out) | exact HB.out)⟩

/-! ### horariumref10_Same: function 30 -/
def horariumref10_Same.l0 : Nat → List Int → List Int → Int → Option (Bool)
  | 0, _, _, _ => none
  | k + 1, x0, x1, x5 => if x5 < (x0.length : Int) then (if 0 ≤ x5 then (if x5 < (x1.length : Int) then (if (rd x0 x5) = (rd x1 x5) then (horariumref10_Same.l0 k x0 x1 (wrap64 (x5 + 1))) else (some false)) else (none)) else (none)) else (some true)
def horariumref10_Same.f (k : Nat) (l0 : List Int) (l1 : List Int) : Option (Bool) := if (l0.length : Int) = (l1.length : Int) then (horariumref10_Same.l0 k l0 l1 0) else (some false)
theorem horariumref10_Same.mono_l : ∀ k, (∀ y0 y1 y2, LeO (horariumref10_Same.l0 k y0 y1 y2) (horariumref10_Same.l0 (k + 1) y0 y1 y2))
  | 0 => fun _ _ _ r h => by simp [horariumref10_Same.l0] at h
  | k + 1 => by
    have ih0 := horariumref10_Same.mono_l k
    · intro y0 y1 y2
      unfold horariumref10_Same.l0
      repeat' first
      | (with_reducible exact ih0 _ _ _)
      | (with_reducible exact LeO.refl _)
      | (with_reducible exact LeO.none _)
      | (with_reducible refine LeO.ite ?_ ?_)
      | (with_reducible refine LeO.bind ?_ (fun _ => ?_))
      | exact ih0 _ _ _
      | exact LeO.none _
      | refine LeO.ite ?_ ?_
      | refine LeO.bind ?_ (fun _ => ?_)
theorem horariumref10_Same.mono : ∀ a0 a1 k, LeO (horariumref10_Same.f k a0 a1) (horariumref10_Same.f (k + 1) a0 a1) := by
  intro a0 a1 k
  have ih0 := horariumref10_Same.mono_l k
  unfold horariumref10_Same.f
  repeat' first
      | (with_reducible exact ih0 _ _ _)
      | (with_reducible exact LeO.refl _)
      | (with_reducible exact LeO.none _)
      | (with_reducible refine LeO.ite ?_ ?_)
      | (with_reducible refine LeO.bind ?_ (fun _ => ?_))
      | exact ih0 _ _ _
      | exact LeO.none _
      | refine LeO.ite ?_ ?_
      | refine LeO.bind ?_ (fun _ => ?_)
set_option maxHeartbeats 8000000 in
set_option maxRecDepth 100000 in
theorem horariumref10_Same.calls (k : Nat) (A0 : Option Addr) (c0 : Nat) (l0 : List Int) (A1 : Option Addr) (c1 : Nat) (l1 : List Int) (r : Bool) (w : World) (hr0 : Kd.C (Kd.int .i64) w A0 l0.length l0) (hc0 : l0.length ≤ c0) (hr1 : Kd.C (Kd.int .i64) w A1 l1.length l1) (hc1 : l1.length ≤ c1) (h : horariumref10_Same.f k l0 l1 = some r) :
    Calls Try.prog 30 #[.slice A0 l0.length c0, .slice A1 l1.length c1] w fun e w' => e = .returned (.bool r) ∧ Drawn0 w w' := by
  have HR0 := Aside0.mk hr0
  have HC0 := Aside0.mk hc0
  clear hr0 hc0
  have HR1 := Aside0.mk hr1
  have HC1 := Aside0.mk hc1
  clear hr1 hc1
  have H : (if (l0.length : Int) = (l1.length : Int) then (horariumref10_Same.l0 k l0 l1 0) else (some false)) = some r := h
  clear h
  by_cases c3 : (l0.length : Int) = (l1.length : Int)
  · rw [if_pos c3] at H
    have c3b0 : ((l0.length : Int) == (l1.length : Int)) = true := beq_iff_eq.mpr c3
    have c3b1 : ((l0.length : Int) != (l1.length : Int)) = false := bne_eq_false_iff_eq.mpr c3
    have c3b2 : (l0.length == l1.length) = true := by first | simpa using c3 | (simp at c3 ⊢; omega)
    clear c3
    have H' := Aside0.mk H
    clear H
    go_enter Try.func30, Try.ntmps30
    go_wp2
    repeat (go_quiet (fail); try go_wp2)
    go_loopg [5] k (fun kq v5 w' => ∃ (x5_1 : Int), v5 = .int .i64 x5_1 ∧ Aside0 (horariumref10_Same.l0 kq l0 l1 x5_1 = some r) ∧ Aside0 (kq ≤ k) ∧ Drawn0 w w')
    case atStart => exact ⟨(0), (by first | rfl | (simp; done) | (simp [*]; done)), H', ⟨Nat.le_refl _⟩, by repeat (first | exact Drawn0.refl _ | apply Drawn0.step)⟩
    case round =>
      clear H'
      try clear c1
      try clear p2
      try clear c3
      try clear c3b0
      try clear c3b1
      try clear c3b2
      obtain ⟨x5_1, rfl, HA, HK1, ⟨m1, rfl⟩⟩ := hrel
      cases gk with
      | zero => exact absurd HA.out (by simp [horariumref10_Same.l0])
      | succ k1 =>
        have H := HA.out
        clear HA
        simp only [horariumref10_Same.l0] at H
        by_cases c4 : x5_1 < (l0.length : Int)
        · rw [if_pos c4] at H
          have c4b0 : decide (x5_1 < (l0.length : Int)) = true := decide_eq_true c4
          clear c4
          by_cases c5 : 0 ≤ x5_1
          · rw [if_pos c5] at H
            have c5b0 : decide (0 ≤ x5_1) = true := decide_eq_true c5
            clear c5
            by_cases c6 : x5_1 < (l1.length : Int)
            · rw [if_pos c6] at H
              have c6b0 : decide (x5_1 < (l1.length : Int)) = true := decide_eq_true c6
              clear c6
              by_cases c7 : (rd l0 x5_1) = (rd l1 x5_1)
              · rw [if_pos c7] at H
                have c7b0 : ((rd l0 x5_1) == (rd l1 x5_1)) = true := beq_iff_eq.mpr c7
                have c7b1 : ((rd l0 x5_1) != (rd l1 x5_1)) = false := bne_eq_false_iff_eq.mpr c7
                clear c7
                have H' := Aside0.mk H
                clear H
                have p145 : 0 ≤ (x5_1 : Int) := of_decide_eq_true (by first | (with_reducible assumption) | assumption)
                have q145 : x5_1 < (l0.length : Int) := of_decide_eq_true (by first | (with_reducible assumption) | assumption)
                obtain ⟨ad145, e145, hx145_0⟩ := Kd.at_int HR0.out x5_1 p145 q145
                cases e145
                replace p145 := eq_true p145
                replace q145 := eq_true q145
                have p146 : 0 ≤ (x5_1 : Int) := of_decide_eq_true (by first | (with_reducible assumption) | assumption)
                have q146 : x5_1 < (l1.length : Int) := of_decide_eq_true (by first | (with_reducible assumption) | assumption)
                obtain ⟨ad146, e146, hx146_0⟩ := Kd.at_int HR1.out x5_1 p146 q146
                cases e146
                replace p146 := eq_true p146
                replace q146 := eq_true q146
                go_wp2
                repeat (go_quiet (fail); try go_wp2)
                go_roundg k1
                case measure => have := HK1.out; omega
                case rel => exact ⟨(wrap64 (x5_1 + 1)), (by first | rfl | (simp; done) | (simp [*]; done)), H', ⟨by have := HK1.out; omega⟩, by repeat (first | exact Drawn0.refl _ | apply Drawn0.step)⟩
              · rw [if_neg c7] at H
                have c7b0 : ((rd l0 x5_1) == (rd l1 x5_1)) = false := beq_eq_false_iff_ne.mpr c7
                have c7b1 : ((rd l0 x5_1) != (rd l1 x5_1)) = true := bne_iff_ne.mpr c7
                obtain rfl := Option.some.inj H
                have p145 : 0 ≤ (x5_1 : Int) := of_decide_eq_true (by first | (with_reducible assumption) | assumption)
                have q145 : x5_1 < (l0.length : Int) := of_decide_eq_true (by first | (with_reducible assumption) | assumption)
                obtain ⟨ad145, e145, hx145_0⟩ := Kd.at_int HR0.out x5_1 p145 q145
                cases e145
                replace p145 := eq_true p145
                replace q145 := eq_true q145
                have p146 : 0 ≤ (x5_1 : Int) := of_decide_eq_true (by first | (with_reducible assumption) | assumption)
                have q146 : x5_1 < (l1.length : Int) := of_decide_eq_true (by first | (with_reducible assumption) | assumption)
                obtain ⟨ad146, e146, hx146_0⟩ := Kd.at_int HR1.out x5_1 p146 q146
                cases e146
                replace p146 := eq_true p146
                replace q146 := eq_true q146
                go_wp2
                repeat (go_quiet (fail); try go_wp2)
                go_ret
                exact ⟨by first | rfl | (simp; done) | (simp only [i64_w]; done) | (simp [*]; done), by repeat (first | exact Drawn0.refl _ | apply Drawn0.step)⟩
            · rw [if_neg c6] at H
              exact absurd H (by simp)
          · rw [if_neg c5] at H
            exact absurd H (by simp)
        · rw [if_neg c4] at H
          have c4b0 : decide (x5_1 < (l0.length : Int)) = false := decide_eq_false c4
          clear c4
          obtain rfl := Option.some.inj H
          go_wp2
          repeat (go_quiet (fail); try go_wp2)
          go_ret
          exact ⟨by first | rfl | (simp; done) | (simp only [i64_w]; done) | (simp [*]; done), by repeat (first | exact Drawn0.refl _ | apply Drawn0.step)⟩
  · rw [if_neg c3] at H
    have c3b0 : ((l0.length : Int) == (l1.length : Int)) = false := beq_eq_false_iff_ne.mpr c3
    have c3b1 : ((l0.length : Int) != (l1.length : Int)) = true := bne_iff_ne.mpr c3
    have c3b2 : (l0.length == l1.length) = false := by first | simpa using c3 | (simp at c3 ⊢; omega)
    obtain rfl := Option.some.inj H
    go_enter Try.func30, Try.ntmps30
    go_wp2
    repeat (go_quiet (fail); try go_wp2)
    go_ret
    exact ⟨by first | rfl | (simp; done) | (simp only [i64_w]; done) | (simp [*]; done), by repeat (first | exact Drawn0.refl _ | apply Drawn0.step)⟩

/-! ### qpa_Path: function 31 (by hand) -/
-- qpa_Test busy_Length busy_Least demand_Of demand_Before demand_may demand_many param_Row
def qpa_Path.f (k : Nat) (l0 : List S28) : Option (List Int) := (busy_Length.f k l0).bind fun ne => if ne.2 = 0 then (pathGo l0 (leastV l0) k (beforeV l0 ne.1)).bind fun xs => if xs.length < 10000000000000 then some (xs.map (·.1)) else none else some []
theorem qpa_Path.mono : ∀ a0 k, LeO (qpa_Path.f k a0) (qpa_Path.f (k + 1) a0) := by
  intro a0 k
  unfold qpa_Path.f
  exact LeO.bind (busy_Length.mono _ k) (fun e => LeO.ite (LeO.bind (pathGo_mono a0 _ k _) (fun _ => LeO.refl _)) (LeO.refl _))
theorem own_R {W : World} {base base' e : Nat} {v : Value} {xs : List Int} (h : W.ownsRow base e 1 v xs.length (xs.map (Value.int .i64))) (hb : base' ≤ base) : Kd.R (Kd.int .i64) e W base' (fun _ => True) v xs := by
  refine ⟨fun _ _ => trivial, xs.map (Value.int .i64), ⟨h.1, ?_⟩, by show (xs.map (Value.int .i64)).length = xs.length * 1; simp, fun j p hp => ?_⟩
  · rcases h.2 with h' | ⟨g, cap, cur, h1, h2, h3⟩
    · exact .inl h'
    · exact .inr ⟨g, cap, cur, h1, Nat.le_trans hb h2, h3⟩
  · obtain ⟨hj, rfl⟩ := List.getElem?_eq_some_iff.1 hp
    show List.take 1 (List.drop (j * 1) (xs.map (Value.int .i64))) = [Value.int .i64 xs[j]]
    rw [Nat.mul_one, List.drop_eq_getElem_cons (by simpa using hj)]; simp
set_option maxHeartbeats 4000000 in
set_option maxRecDepth 100000 in
theorem qpa_Path.calls (k : Nat) (A0 : Option Addr) (c0 : Nat) (l0 : List S28) (r : List Int) (w : World) (hr0 : Kd.C k28 w A0 l0.length l0) (hc0 : l0.length ≤ c0) (h : qpa_Path.f k l0 = some r) :
    Calls Try.prog 31 #[.slice A0 l0.length c0] w fun e w' => ∃ v0_ : Value, e = .returned (v0_) ∧ Kd.R (Kd.int .i64) 2 w' w.heap.size (fun _ => True) v0_ r ∧ Below w.heap.size w w' := by
  have hu := Try.underlying28
  have hmax : l0.length ≤ 9223372036854775807 := Kd.C_max hr0
  unfold qpa_Path.f at h
  obtain ⟨⟨len, er⟩, hlen, h1⟩ := Option.bind_eq_some_iff.mp h
  have HR0 := Aside0.mk hr0
  have HC0 := Aside0.mk hc0
  have HLN := Lib.hid (busy_Length.calls k A0 c0 l0 len er w hr0 hc0 hlen)
  have HLEN := Lib.hid hlen
  clear hr0 hc0 h hlen
  by_cases he : er = 0
  · subst he
    rw [if_pos rfl] at h1
    obtain ⟨xs, hxs, h2⟩ := Option.bind_eq_some_iff.mp h1
    by_cases hN : xs.length < 10000000000000
    case neg => rw [if_neg hN] at h2; cases h2
    rw [if_pos hN] at h2
    have HE := Lib.hid (Option.some.inj h2)
    have HXS := Lib.hid hxs
    clear h1 h2 hxs
    refine (callsIn_wide (n := 5)).1 ?_
    refine callsIn_of_wp_marks Try.func31 rfl trivial ?_ rfl
    simp only [Try.ntmps31, List.size_toArray, List.length_cons, List.length_nil, Nat.reduceAdd, Nat.reduceSub, Array.replicate_succ, Array.replicate_zero, List.push_toArray, List.append_toArray, List.nil_append, List.cons_append]
    refine (wpIn_wide (n := 5)).2 ?_
    go_wp2_with (first
      | (go_at_call 20; refine HLN.out.mono ?_; rintro e w1 ⟨rfl, hb1⟩; have HB1 := Lib.hid hb1; clear hb1)
      | (go_at_call 55; refine (pathMake.calls A0 c0 l0 _).mono ?_; rintro e w2 ⟨Bl, rfl, hst⟩; have HST := Lib.hid hst; clear hst))
    have hst := HST.out
    have hst2 : PathAt w w2 A0 c0 l0 Bl := path_rebase hst (below_alloc HB1.out _)
    obtain ⟨be, hbe⟩ : ∃ b, w1.heap.size = b := ⟨_, rfl⟩
    have he2 : w2.heap[be]? = some (.cells #[.slice none 0 0] 44 (0, 0)) := (hst.hb.block _ (by simp; omega)).trans (by rw [← hbe]; exact heap_alloc_new w1 _)
    have hw1 : w.heap.size ≤ be := by have := HB1.out.size; omega
    have sl : be < Bl := by have := hst.gl; simp at this; omega
    have zl : Bl < w2.heap.size := (Array.getElem?_eq_some_iff.1 hst.hl).1
    rw [hbe]
    clear hst HST hbe HB1
    obtain ⟨i0, hi0, hz0, hz1, hz2⟩ := info_parts info2
    refine (wpIn_wide (n := 5)).1 ?_
    refine PxR.rangeX rfl (by omega) (gf := 71) (lb := #[.pointer (some ⟨Bl, 0, none⟩)]) rfl trivial (enters_of Try.func71 (by kernel_rfl) rfl) (path_seq A0 c0 l0 w w2 HR0.out HC0.out Bl hst2 k len 0 HLEN.out xs HXS.out 4 (by omega)) ?kt ?kb (Below.refl _ _) (fun _ => rfl) ?ok (fun pre W => Below w.heap.size w W ∧ w2.heap.size ≤ W.heap.size ∧ ∃ v, W.heap[be]? = some (.cells #[v] 44 (0, 0)) ∧ W.ownsRow w2.heap.size 2 1 v pre.length (pre.map (fun p => Value.int .i64 p.1))) (fun _ _ _ => False) ?hI ?hIx ⟨hst2.hb, Nat.le_refl _, _, he2, by simp, .inl ⟨rfl, rfl⟩⟩ (fun x => { tmps := #[.slice A0 l0.length c0, undef, .slice none 0 0, .int .i64 len, .int .i64 0, .pointer (some ⟨be, 0, none⟩), .int .i64 x.1, .tuple #[.int .i64 len, .int .i64 0], .slice A0 l0.length c0, .tuple #[.int .i64 len, .int .i64 0], .int .i64 len, .int .i64 0, .int .i64 0, .bool false, .slice A0 l0.length c0, .func (.func 71) #[] #[.pointer (some ⟨Bl, 0, none⟩)], .int .i64 x.1, .int .i64 x.2, undef, undef, undef, undef, undef], defers := [] }) ?assign ?body ?done ?stop
    case kt => exact fun h k => ⟨h.1.trans k.1, k.2.trans h.2⟩
    case kb =>
      intro W o o' h _
      have hz := (Array.getElem?_eq_some_iff.1 h).1
      exact ⟨(Below.refl _ W).grown (grownBy_putObj' W _ o') (by omega) (fun k e => by cases e; omega), World.putObj_heap_other (by omega)⟩
    case ok => exact fun r hr => hr.elim
    case hI =>
      rintro s A B row ⟨h1, h2, v, hv, hown⟩ hgr hr
      have hz := (Array.getElem?_eq_some_iff.1 hv).1
      have ho : ∀ r, row = some r → (r = w2.heap.size ∨ r = w2.heap.size + 1) ∧ ∃ o : Obj, A.heap[r]? = some o ∧ o.isCells = false := fun r e => by
        rcases hr r e with h | h
        · exact h.elim
        · exact h
      refine ⟨h1.grown hgr (by omega) (fun r e => by have := (ho r e).1; omega), Nat.le_trans h2 hgr.size, v, PxR.blk_other hgr hv (fun e => by have := (ho _ e.symm).1; omega), ?_⟩
      cases row with
      | none => exact hown.kept hgr (by cases v.ownBlock <;> simp)
      | some r => exact hown.kept hgr (PxR.own_ne hown (Or.inr (ho r rfl).2))
    case hIx => exact fun _ _ _ _ _ hs _ _ => hs
    case assign =>
      intro l x W K hK
      gi_wp2_with (rw [Oper.semAt_eq _ _ _ (fun c h => by cases h)]; go_simp; try go_bits)
      exact hK
    case body =>
      rintro l pre ⟨x, wk⟩ W ⟨hb, h2, v, hc, hown⟩ hlen2
      have c1 : W.cell? ⟨be, 0, none⟩ = some v := (blk_cell hc 0).trans rfl
      have f1 : W.frozen? ⟨be, 0, none⟩ = false := blk_frozen hc 0
      generalize Fence.wide = F0
      gi_wp2_with (first
        | (gi_at_builtin; refine wpListIn_append_own _ rfl _ _ 44 rfl w2.heap.size 2 i0 (.int .i64 0) 1 8 Try.underlying44 hi0 hz0 hz1 hz2 rfl (by decide) _ _ _ rfl (hown.alloc _) ⟨W.heap.size, 0, none⟩ 1 1 [.int .i64 x] rfl rfl (cell_one_new _ _ _) (by simp [Value.oneCell']) (by unfold maxLen; omega) (by omega) (by simp; omega) ?_; intro v' w3 hown' hg3 hnil3
           replace hg3 : (W.alloc (.cells #[.int .i64 x] 2)).grownBy w3 v.ownBlock := hg3
           have hbl : be < W.heap.size := by omega
           have ne3 : ∀ q, q < w2.heap.size → some q ≠ v.ownBlock := fun q hq e => by
             rcases PxR.own_ne hown (Or.inl hq) with h | h
             · rw [h] at e; cases e
             · exact h e.symm
           have keep3 : ∀ q, q < w2.heap.size → w3.heap[q]? = W.heap[q]? := fun q hq => (hg3.block q (by simp; omega) (ne3 q hq)).trans (Below.heap_alloc _ _ q (by omega))
           have hc3 := (keep3 be (by omega)).trans hc
           have c3 : w3.cell? ⟨be, 0, none⟩ = some v := (blk_cell hc3 0).trans rfl
           have f3 : w3.frozen? ⟨be, 0, none⟩ = false := blk_frozen hc3 0
           have hb3 : Below w.heap.size W w3 := ((Below.refl w.heap.size W).alloc (by omega) _).grown hg3 (by simp; omega) (fun q e => by
             obtain ⟨o, ho⟩ : ∃ o, (W.alloc (.cells #[.int .i64 x] 2)).heap[q]? = some o := by
               rcases (hown.alloc (.cells #[.int .i64 x] 2)).2 with ⟨rfl, _⟩ | ⟨g, cap, cur, rfl, _, hg, _⟩
               · simp [Value.ownBlock] at e
               · have : g = q := by simpa [Value.ownBlock] using e
                 subst this; exact ⟨_, hg⟩
             have := (PxR.own_cells (hown.alloc _) e ho).2
             omega)
           have hk3 : KeepsOthers W w3 := (KeepsOthers.alloc W _).trans (KeepsOthers.of_grownBy hg3 (fun j o ej hj => (PxR.own_cells (hown.alloc _) ej hj).1))
           have HB3 := Lib.hid hb3
           have HK3 := Lib.hid hk3
           have KP3 := Lib.hid keep3
           obtain ⟨g', cap', rfl⟩ : ∃ g' cap', v' = .slice (some ⟨g', 0, none⟩) (pre.length + 1) cap' := by
             rcases hown'.2 with ⟨_, h0⟩ | ⟨g', cap', _, h', _⟩
             · exact absurd h0 (by omega)
             · exact ⟨g', cap', h'⟩
           have HO3 := Lib.hid hown'
           have HC3 := Lib.hid hc3
           clear hb3 hk3 keep3 hown' hc3 ne3
           go_frame)
        | (rw [Oper.semAt_eq _ _ _ (fun c h => by cases h)]; go_simp; try go_bits))
      refine ⟨HK3.out.trans (KeepsOthers.setCell _ _ _), ⟨HB3.out.setCell (p := ⟨be, 0, none⟩) hw1 _, (Below.heap_setCell _ ⟨be, 0, none⟩ _ _ (by show _ ≠ be; omega)).trans (KP3.out _ (by omega))⟩, ((hb.trans HB3.out).setCell (p := ⟨be, 0, none⟩) hw1 _), by have := HB3.out.size; have := HK3.out.size; simp; omega, .slice (some ⟨g', 0, none⟩) (pre.length + 1) cap', by simpa using blk_set HC3.out 0 (.slice (some ⟨g', 0, none⟩) (pre.length + 1) cap'), ?_⟩
      have := HO3.out.kept (PxR.grown_set w3 ⟨be, 0, none⟩ (.slice (some ⟨g', 0, none⟩) (pre.length + 1) cap')) (PxR.own_ne HO3.out (Or.inl (show be < w2.heap.size by omega)))
      simpa using this
    case done =>
      rintro D ys W hD rfl ⟨hb, h2, v, hc, hown⟩ hK
      have c1 : W.cell? ⟨be, 0, none⟩ = some v := (blk_cell hc 0).trans rfl
      have HB := Lib.hid hb
      have HOW := Lib.hid hown
      have HK := Lib.hid hK
      clear hb h2 hc hown hK
      go_wp2
      refine ⟨by simp, .inl ⟨_, _, rfl, run_takeDeferred HK.out, ?_⟩⟩
      have hz := (Array.getElem?_eq_some_iff.1 HK.out).1
      have hown2 := HOW.out.kept (grownBy_putObj' W D (.deferred none)) (PxR.own_ne HOW.out (Or.inr ⟨_, HK.out, rfl⟩))
      exact ⟨_, results_tmp rfl _ _ _, v, rfl, by rw [← HE.out]; exact own_R (by simpa [Function.comp_def] using hown2) (by omega), HB.out.grown (grownBy_putObj' W D (.deferred none)) (by have := HB.out.size; omega) (fun k e => by cases e; omega)⟩
    case stop =>
      rintro D c pre W _ _ h _
      exact h.elim
  · rw [if_neg he] at h1
    have HE := Lib.hid (Option.some.inj h1)
    have hne : (er != 0) = true := by simpa using he
    have hne2 : (er == 0) = false := by simpa using he
    clear h1 he
    go_enter Try.func31, Try.ntmps31
    go_wp2_with (go_at_call 20; refine HLN.out.mono ?_; rintro e w1 ⟨rfl, hb1⟩; have HB1 := Lib.hid hb1; clear hb1)
    go_ret
    exact ⟨_, rfl, by rw [← HE.out]; exact Kd.R_nil _ _ _ _ _, HB1.out⟩

end Go.Proofs.Ythiepacmdlgajaa.PQpaPaths
