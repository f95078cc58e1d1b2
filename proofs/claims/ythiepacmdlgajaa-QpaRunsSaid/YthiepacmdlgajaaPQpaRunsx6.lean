-- Made by px.py (a program of this session, over the kit's printer) out of the translation. Not trusted: Lean checks it.
import Derived.Test.YthiepacmdlgajaaPQpaRunsx0
import Derived.Test.YthiepacmdlgajaaPQpaRunsx1
namespace Go.Proofs.Ythiepacmdlgajaa.PQpaRuns
open Go.RowKit Go.Proofs.YthiepacmdlgajaaW.PrintWords Go.Proofs.YthiepacmdlgajaaW.PrintLast Go.Proofs.YthiepacmdlgajaaW.PrintMore
attribute [local go_sem] max2_int min2_int max_two min_two max_three min_three max_four min_four   -- for this text's walks alone
set_option linter.unusedVariables false
set_option linter.unusedSimpArgs false

/-! ### horariumlaw12_made: function 28 -/
def horariumlaw12_made.l0 : Nat → List (S31) → List (S28) → Int → Int → Int → Int → Int → Int → Int → Int → Int → Option ((List (S28)))
  | 0, _, _, _, _, _, _, _, _, _, _, _ => none
  | k + 1, x0, x4, x5, x153000, x153001, x153002, x153003, x153004, x153005, x153006, x153007 => if x5 < (x0.length : Int) then (if x5 < 8 then (if 0 ≤ x5 then (if 0 ≤ (Go.bits .and .i64 ((rd_T31 x0 x5).f2) 7) then (if (Go.bits .and .i64 ((rd_T31 x0 x5).f2) 7) < 8 then (if (rd [x153000, x153001, x153002, x153003, x153004, x153005, x153006, x153007] (Go.bits .and .i64 ((rd_T31 x0 x5).f2) 7)) = 0 then (none) else (if (wrap64 (1 + (Int.tmod (wrap64 ((Int.tmod ((rd_T31 x0 x5).f1) (rd [x153000, x153001, x153002, x153003, x153004, x153005, x153006, x153007] (Go.bits .and .i64 ((rd_T31 x0 x5).f2) 7))) + (rd [x153000, x153001, x153002, x153003, x153004, x153005, x153006, x153007] (Go.bits .and .i64 ((rd_T31 x0 x5).f2) 7)))) (rd [x153000, x153001, x153002, x153003, x153004, x153005, x153006, x153007] (Go.bits .and .i64 ((rd_T31 x0 x5).f2) 7))))) = 0 then (none) else (if x4.length < 3518437208883 then (horariumlaw12_made.l0 k x0 (x4 ++ [(⟨x5, wrap64 (1 + (Int.tmod (wrap64 ((Int.tmod ((rd_T31 x0 x5).f0) (wrap64 (1 + (Int.tmod (wrap64 ((Int.tmod ((rd_T31 x0 x5).f1) (rd [x153000, x153001, x153002, x153003, x153004, x153005, x153006, x153007] (Go.bits .and .i64 ((rd_T31 x0 x5).f2) 7))) + (rd [x153000, x153001, x153002, x153003, x153004, x153005, x153006, x153007] (Go.bits .and .i64 ((rd_T31 x0 x5).f2) 7)))) (rd [x153000, x153001, x153002, x153003, x153004, x153005, x153006, x153007] (Go.bits .and .i64 ((rd_T31 x0 x5).f2) 7)))))) + (wrap64 (1 + (Int.tmod (wrap64 ((Int.tmod ((rd_T31 x0 x5).f1) (rd [x153000, x153001, x153002, x153003, x153004, x153005, x153006, x153007] (Go.bits .and .i64 ((rd_T31 x0 x5).f2) 7))) + (rd [x153000, x153001, x153002, x153003, x153004, x153005, x153006, x153007] (Go.bits .and .i64 ((rd_T31 x0 x5).f2) 7)))) (rd [x153000, x153001, x153002, x153003, x153004, x153005, x153006, x153007] (Go.bits .and .i64 ((rd_T31 x0 x5).f2) 7))))))) (wrap64 (1 + (Int.tmod (wrap64 ((Int.tmod ((rd_T31 x0 x5).f1) (rd [x153000, x153001, x153002, x153003, x153004, x153005, x153006, x153007] (Go.bits .and .i64 ((rd_T31 x0 x5).f2) 7))) + (rd [x153000, x153001, x153002, x153003, x153004, x153005, x153006, x153007] (Go.bits .and .i64 ((rd_T31 x0 x5).f2) 7)))) (rd [x153000, x153001, x153002, x153003, x153004, x153005, x153006, x153007] (Go.bits .and .i64 ((rd_T31 x0 x5).f2) 7))))))), wrap64 (1 + (Int.tmod (wrap64 ((Int.tmod ((rd_T31 x0 x5).f1) (rd [x153000, x153001, x153002, x153003, x153004, x153005, x153006, x153007] (Go.bits .and .i64 ((rd_T31 x0 x5).f2) 7))) + (rd [x153000, x153001, x153002, x153003, x153004, x153005, x153006, x153007] (Go.bits .and .i64 ((rd_T31 x0 x5).f2) 7)))) (rd [x153000, x153001, x153002, x153003, x153004, x153005, x153006, x153007] (Go.bits .and .i64 ((rd_T31 x0 x5).f2) 7)))), rd [x153000, x153001, x153002, x153003, x153004, x153005, x153006, x153007] (Go.bits .and .i64 ((rd_T31 x0 x5).f2) 7), wrap64 (1 + (Int.tmod (Go.bits .and .i64 (((rd_T31 x0 x5).f2) / 8) 15) 15))⟩ : S28)]) (wrap64 (x5 + 1)) x153000 x153001 x153002 x153003 x153004 x153005 x153006 x153007) else (none)))) else (none)) else (none)) else (none)) else (some x4)) else (some x4)
def horariumlaw12_made.f (k : Nat) (l0 : List (S31)) : Option ((List (S28))) := horariumlaw12_made.l0 k l0 ([] : List (S28)) 0 2 3 4 5 6 8 10 12
theorem horariumlaw12_made.mono_l : ∀ k, (∀ y0 y1 y2 y3 y4 y5 y6 y7 y8 y9 y10, LeO (horariumlaw12_made.l0 k y0 y1 y2 y3 y4 y5 y6 y7 y8 y9 y10) (horariumlaw12_made.l0 (k + 1) y0 y1 y2 y3 y4 y5 y6 y7 y8 y9 y10))
  | 0 => fun _ _ _ _ _ _ _ _ _ _ _ r h => by simp [horariumlaw12_made.l0] at h
  | k + 1 => by
    have ih0 := horariumlaw12_made.mono_l k
    · intro y0 y1 y2 y3 y4 y5 y6 y7 y8 y9 y10
      unfold horariumlaw12_made.l0
      repeat' first
      | (with_reducible exact ih0 _ _ _ _ _ _ _ _ _ _ _)
      | (with_reducible exact LeO.refl _)
      | (with_reducible exact LeO.none _)
      | (with_reducible refine LeO.ite ?_ ?_)
      | (with_reducible refine LeO.bind ?_ (fun _ => ?_))
      | exact ih0 _ _ _ _ _ _ _ _ _ _ _
      | exact LeO.none _
      | refine LeO.ite ?_ ?_
      | refine LeO.bind ?_ (fun _ => ?_)
theorem horariumlaw12_made.mono : ∀ a0 k, LeO (horariumlaw12_made.f k a0) (horariumlaw12_made.f (k + 1) a0) := by
  intro a0 k
  have ih0 := horariumlaw12_made.mono_l k
  unfold horariumlaw12_made.f
  repeat' first
      | (with_reducible exact ih0 _ _ _ _ _ _ _ _ _ _ _)
      | (with_reducible exact LeO.refl _)
      | (with_reducible exact LeO.none _)
      | (with_reducible refine LeO.ite ?_ ?_)
      | (with_reducible refine LeO.bind ?_ (fun _ => ?_))
      | exact ih0 _ _ _ _ _ _ _ _ _ _ _
      | exact LeO.none _
      | refine LeO.ite ?_ ?_
      | refine LeO.bind ?_ (fun _ => ?_)
def horariumlaw12_made.T8 : Bool × List (List Nat × List Nat) := (true, [([], []), ([], []), ([], []), ([], []), ([2, 3], [2, 3]), ([4], [4]), ([5], [5]), ([], []), ([6, 7], [6, 7]), ([], []), ([8, 9], [8, 9]), ([], []), ([10, 11], [10, 11]), ([12], [12]), ([], []), ([], []), ([], []), ([], []), ([16, 17], [16, 17]), ([18], [18]), ([19], [19]), ([20], [20]), ([21], [21]), ([22], [22]), ([23], [23]), ([1, 13, 14, 15, 24], [1, 13, 14, 15, 24]), ([25], [25]), ([0, 26], [0, 26]), ([27, 27, 0, 1, 2, 3, 4, 5, 6, 7, 8, 9, 10, 11, 12, 13, 14, 15, 16, 17, 18, 19, 20, 21, 22, 23, 24, 25, 26, 27], [0, 27])])
def horariumlaw12_made.B8 : List Nat := [0, 0, 0, 0, 12, 28, 60, 0, 252, 0, 1020, 0, 4092, 8188, 0, 0, 0, 0, 196608, 458752, 983040, 2031616, 4128768, 8323072, 16711680, 33554430, 67108862, 134217727, 268435455]
theorem horariumlaw12_made.tab8 : rtab .any (opsOf Try.f28 8) = horariumlaw12_made.T8 := by kernel_rfl
theorem horariumlaw12_made.bits8 : waitsOk horariumlaw12_made.T8.2 horariumlaw12_made.B8 = true := by kernel_rfl
set_option maxHeartbeats 8000000 in
set_option maxRecDepth 100000 in
theorem horariumlaw12_made.calls (k : Nat) (A0 : Option Addr) (c0 : Nat) (l0 : List (S31)) (r : List (S28)) (w : World) (hr0 : Kd.C k31 w A0 l0.length l0) (hc0 : l0.length ≤ c0) (h : horariumlaw12_made.f k l0 = some r) :
    Calls Try.prog 28 #[.slice A0 l0.length c0] w fun e w' => ∃ v0_ : Value, e = .returned (v0_) ∧ Kd.R k28 28 w' w.heap.size (fun _ => True) v0_ r ∧ Below w.heap.size w w' := by
  have hu54 := Try.underlying54
  have hu28 := Try.underlying28
  have HR0 := Aside0.mk hr0
  have HC0 := Aside0.mk hc0
  clear hr0 hc0
  have HB := Aside0.mk (Below.refl w.heap.size w)
  have H : (horariumlaw12_made.l0 k l0 ([] : List (S28)) 0 2 3 4 5 6 8 10 12) = some r := h
  clear h
  have H' := Aside0.mk H
  clear H
  go_enter Try.func28, Try.ntmps28
  go_wp2_with (first | ((with_reducible refine gate_dst (N := 3) rfl ?_); refine box_event ?hg (N := 3) ?hd (cs := #[.int .i64 0, .int .i64 0, .int .i64 0, .int .i64 0, .int .i64 0, .int .i64 0, .int .i64 0, .int .i64 0]) (t := 54) ?hr ?_; (case hd => rfl); (case hg => rfl); (case hr => first | (go_simp; done) | (go_simp; rfl)); intro gb152 hg w2 hbox hb; have n0_ := Aside0.mk (below_step (by repeat (first | (with_reducible first | exact HB.out | apply below_alloc | apply pw_below_drewN | apply below_drew1) | exact HB.out)) hb); have n1_ := Aside0.mk (hbox); have n2_ := Aside0.mk ((by rw [hg]; exact (below_size (by repeat (first | (with_reducible first | exact HB.out | apply below_alloc | apply pw_below_drewN | apply below_drew1) | exact HB.out))) : w.heap.size ≤ gb152)); have n3_ := Aside0.mk ((by rw [hg]; exact (below_size (by repeat (first | (with_reducible first | exact HB.out | apply below_alloc | apply pw_below_drewN | apply below_drew1) | exact HB.out))) : w.heap.size ≤ gb152)); clear HB; have HB := n0_; have BK152 := n1_; have GW152 := n2_; have GE152 := n3_; clear n0_ n1_ n2_ n3_; clear hb hbox hg; have hcz3_0 : w2.cell? ⟨gb152, 0, none⟩ = some (.int .i64 0) := (blk_cell BK152.out 0).trans rfl; have hcz3_1 : w2.cell? ⟨gb152, 1, none⟩ = some (.int .i64 0) := (blk_cell BK152.out 1).trans rfl; have hcz3_2 : w2.cell? ⟨gb152, 2, none⟩ = some (.int .i64 0) := (blk_cell BK152.out 2).trans rfl; have hcz3_3 : w2.cell? ⟨gb152, 3, none⟩ = some (.int .i64 0) := (blk_cell BK152.out 3).trans rfl; have hcz3_4 : w2.cell? ⟨gb152, 4, none⟩ = some (.int .i64 0) := (blk_cell BK152.out 4).trans rfl; have hcz3_5 : w2.cell? ⟨gb152, 5, none⟩ = some (.int .i64 0) := (blk_cell BK152.out 5).trans rfl; have hcz3_6 : w2.cell? ⟨gb152, 6, none⟩ = some (.int .i64 0) := (blk_cell BK152.out 6).trans rfl; have hcz3_7 : w2.cell? ⟨gb152, 7, none⟩ = some (.int .i64 0) := (blk_cell BK152.out 7).trans rfl; have hfz3_0 := blk_frozen BK152.out 0; have hfz3_1 := blk_frozen BK152.out 1; have hfz3_2 := blk_frozen BK152.out 2; have hfz3_3 := blk_frozen BK152.out 3; have hfz3_4 := blk_frozen BK152.out 4; have hfz3_5 := blk_frozen BK152.out 5; have hfz3_6 := blk_frozen BK152.out 6; have hfz3_7 := blk_frozen BK152.out 7))
  go_loopg [4, 5] k (fun kq v4 v5 w' => ∃ (x4_1 : List (S28)) (x5_1 : Int), v5 = .int .i64 x5_1 ∧ Aside0 (horariumlaw12_made.l0 kq l0 x4_1 x5_1 2 3 4 5 6 8 10 12 = some r) ∧ Aside0 (kq ≤ k) ∧ Aside0 (Kd.R k28 28 w' w.heap.size (fun _ => True) v4 x4_1) ∧ Aside0 (w'.heap[gb152]? = some (.cells #[.int .i64 2, .int .i64 3, .int .i64 4, .int .i64 5, .int .i64 6, .int .i64 8, .int .i64 10, .int .i64 12] 54 (0, 0))) ∧ Aside0 (Below w.heap.size w w'))
  case atStart => exact ⟨(([] : List (S28))), (0), (by first | rfl | (simp; done) | (simp [*]; done)), H', ⟨Nat.le_refl _⟩, ⟨by first | exact Kd.R_nil _ _ _ _ _ | exact Kd.N_nil _ _ _ _ _ | exact Kd.V_nil _ _ _ _ _ | exact Kd.Q_nil _ _ _ _ _ | exact Kd.S_nil _ _ _ _ _⟩, ⟨by (with_reducible repeat (first | refine blk_drewN ?_ _ | refine blk_drew ?_ | refine blk_alloc ?_ _)); refine blk_put (cs := #[.int .i64 2, .int .i64 3, .int .i64 4, .int .i64 5, .int .i64 6, .int .i64 8, .int .i64 10, .int .i64 0]) ?_ 7 _ rfl; (with_reducible repeat (first | refine blk_drewN ?_ _ | refine blk_drew ?_ | refine blk_alloc ?_ _)); refine blk_put (cs := #[.int .i64 2, .int .i64 3, .int .i64 4, .int .i64 5, .int .i64 6, .int .i64 8, .int .i64 0, .int .i64 0]) ?_ 6 _ rfl; (with_reducible repeat (first | refine blk_drewN ?_ _ | refine blk_drew ?_ | refine blk_alloc ?_ _)); refine blk_put (cs := #[.int .i64 2, .int .i64 3, .int .i64 4, .int .i64 5, .int .i64 6, .int .i64 0, .int .i64 0, .int .i64 0]) ?_ 5 _ rfl; (with_reducible repeat (first | refine blk_drewN ?_ _ | refine blk_drew ?_ | refine blk_alloc ?_ _)); refine blk_put (cs := #[.int .i64 2, .int .i64 3, .int .i64 4, .int .i64 5, .int .i64 0, .int .i64 0, .int .i64 0, .int .i64 0]) ?_ 4 _ rfl; (with_reducible repeat (first | refine blk_drewN ?_ _ | refine blk_drew ?_ | refine blk_alloc ?_ _)); refine blk_put (cs := #[.int .i64 2, .int .i64 3, .int .i64 4, .int .i64 0, .int .i64 0, .int .i64 0, .int .i64 0, .int .i64 0]) ?_ 3 _ rfl; (with_reducible repeat (first | refine blk_drewN ?_ _ | refine blk_drew ?_ | refine blk_alloc ?_ _)); refine blk_put (cs := #[.int .i64 2, .int .i64 3, .int .i64 0, .int .i64 0, .int .i64 0, .int .i64 0, .int .i64 0, .int .i64 0]) ?_ 2 _ rfl; (with_reducible repeat (first | refine blk_drewN ?_ _ | refine blk_drew ?_ | refine blk_alloc ?_ _)); refine blk_put (cs := #[.int .i64 2, .int .i64 0, .int .i64 0, .int .i64 0, .int .i64 0, .int .i64 0, .int .i64 0, .int .i64 0]) ?_ 1 _ rfl; (with_reducible repeat (first | refine blk_drewN ?_ _ | refine blk_drew ?_ | refine blk_alloc ?_ _)); refine blk_put (cs := #[.int .i64 0, .int .i64 0, .int .i64 0, .int .i64 0, .int .i64 0, .int .i64 0, .int .i64 0, .int .i64 0]) ?_ 0 _ rfl; (with_reducible repeat (first | refine blk_drewN ?_ _ | refine blk_drew ?_ | refine blk_alloc ?_ _)); exact BK152.out⟩, ⟨by repeat (first | (with_reducible first | exact HB.out | apply below_alloc | apply pw_below_drewN | apply below_drew1 | refine below_set ?_ GE152.out) | exact HB.out)⟩⟩
  case round =>
    clear H'
    try clear c2
    try clear p2
    try clear hcz3_0
    try clear hcz3_1
    try clear hcz3_2
    try clear hcz3_3
    try clear hcz3_4
    try clear hcz3_5
    try clear hcz3_6
    try clear hcz3_7
    try clear hfz3_0
    try clear hfz3_1
    try clear hfz3_2
    try clear hfz3_3
    try clear hfz3_4
    try clear hfz3_5
    try clear hfz3_6
    try clear hfz3_7
    obtain ⟨x4_1, x5_1, rfl, HA, HK1, HO_4, BK152, HB⟩ := hrel
    cases gk with
    | zero => exact absurd HA.out (by simp [horariumlaw12_made.l0])
    | succ k1 =>
      have H := HA.out
      clear HA
      simp only [horariumlaw12_made.l0] at H
      by_cases c4 : x5_1 < (l0.length : Int)
      · rw [if_pos c4] at H
        have c4b0 : decide (x5_1 < (l0.length : Int)) = true := decide_eq_true c4
        clear c4
        by_cases c5 : x5_1 < 8
        · rw [if_pos c5] at H
          have c5b0 : decide (x5_1 < 8) = true := decide_eq_true c5
          clear c5
          by_cases c6 : 0 ≤ x5_1
          · rw [if_pos c6] at H
            have c6b0 : decide (0 ≤ x5_1) = true := decide_eq_true c6
            clear c6
            by_cases c7 : 0 ≤ (Go.bits .and .i64 ((rd_T31 l0 x5_1).f2) 7)
            · rw [if_pos c7] at H
              have c7b0 : decide (0 ≤ (Go.bits .and .i64 ((rd_T31 l0 x5_1).f2) 7)) = true := decide_eq_true c7
              clear c7
              by_cases c8 : (Go.bits .and .i64 ((rd_T31 l0 x5_1).f2) 7) < 8
              · rw [if_pos c8] at H
                have c8b0 : decide ((Go.bits .and .i64 ((rd_T31 l0 x5_1).f2) 7) < 8) = true := decide_eq_true c8
                clear c8
                by_cases c9 : (rd [2, 3, 4, 5, 6, 8, 10, 12] (Go.bits .and .i64 ((rd_T31 l0 x5_1).f2) 7)) = 0
                · rw [if_pos c9] at H
                  exact absurd H (by simp)
                · rw [if_neg c9] at H
                  have c9b0 : ((rd [2, 3, 4, 5, 6, 8, 10, 12] (Go.bits .and .i64 ((rd_T31 l0 x5_1).f2) 7)) == 0) = false := beq_eq_false_iff_ne.mpr c9
                  have c9b1 : ((rd [2, 3, 4, 5, 6, 8, 10, 12] (Go.bits .and .i64 ((rd_T31 l0 x5_1).f2) 7)) != 0) = true := bne_iff_ne.mpr c9
                  by_cases c10 : (wrap64 (1 + (Int.tmod (wrap64 ((Int.tmod ((rd_T31 l0 x5_1).f1) (rd [2, 3, 4, 5, 6, 8, 10, 12] (Go.bits .and .i64 ((rd_T31 l0 x5_1).f2) 7))) + (rd [2, 3, 4, 5, 6, 8, 10, 12] (Go.bits .and .i64 ((rd_T31 l0 x5_1).f2) 7)))) (rd [2, 3, 4, 5, 6, 8, 10, 12] (Go.bits .and .i64 ((rd_T31 l0 x5_1).f2) 7))))) = 0
                  · rw [if_pos c10] at H
                    exact absurd H (by simp)
                  · rw [if_neg c10] at H
                    have c10b0 : ((wrap64 (1 + (Int.tmod (wrap64 ((Int.tmod ((rd_T31 l0 x5_1).f1) (rd [2, 3, 4, 5, 6, 8, 10, 12] (Go.bits .and .i64 ((rd_T31 l0 x5_1).f2) 7))) + (rd [2, 3, 4, 5, 6, 8, 10, 12] (Go.bits .and .i64 ((rd_T31 l0 x5_1).f2) 7)))) (rd [2, 3, 4, 5, 6, 8, 10, 12] (Go.bits .and .i64 ((rd_T31 l0 x5_1).f2) 7))))) == 0) = false := beq_eq_false_iff_ne.mpr c10
                    have c10b1 : ((wrap64 (1 + (Int.tmod (wrap64 ((Int.tmod ((rd_T31 l0 x5_1).f1) (rd [2, 3, 4, 5, 6, 8, 10, 12] (Go.bits .and .i64 ((rd_T31 l0 x5_1).f2) 7))) + (rd [2, 3, 4, 5, 6, 8, 10, 12] (Go.bits .and .i64 ((rd_T31 l0 x5_1).f2) 7)))) (rd [2, 3, 4, 5, 6, 8, 10, 12] (Go.bits .and .i64 ((rd_T31 l0 x5_1).f2) 7))))) != 0) = true := bne_iff_ne.mpr c10
                    by_cases c11 : x4_1.length < 3518437208883
                    · rw [if_pos c11] at H
                      have LMc11 := Aside0.mk c11
                      clear c11
                      obtain ⟨y157, hy157⟩ : ∃ y_ : List (S28), y_ = (x4_1 ++ [(⟨x5_1, wrap64 (1 + (Int.tmod (wrap64 ((Int.tmod ((rd_T31 l0 x5_1).f0) (wrap64 (1 + (Int.tmod (wrap64 ((Int.tmod ((rd_T31 l0 x5_1).f1) (rd [2, 3, 4, 5, 6, 8, 10, 12] (Go.bits .and .i64 ((rd_T31 l0 x5_1).f2) 7))) + (rd [2, 3, 4, 5, 6, 8, 10, 12] (Go.bits .and .i64 ((rd_T31 l0 x5_1).f2) 7)))) (rd [2, 3, 4, 5, 6, 8, 10, 12] (Go.bits .and .i64 ((rd_T31 l0 x5_1).f2) 7)))))) + (wrap64 (1 + (Int.tmod (wrap64 ((Int.tmod ((rd_T31 l0 x5_1).f1) (rd [2, 3, 4, 5, 6, 8, 10, 12] (Go.bits .and .i64 ((rd_T31 l0 x5_1).f2) 7))) + (rd [2, 3, 4, 5, 6, 8, 10, 12] (Go.bits .and .i64 ((rd_T31 l0 x5_1).f2) 7)))) (rd [2, 3, 4, 5, 6, 8, 10, 12] (Go.bits .and .i64 ((rd_T31 l0 x5_1).f2) 7))))))) (wrap64 (1 + (Int.tmod (wrap64 ((Int.tmod ((rd_T31 l0 x5_1).f1) (rd [2, 3, 4, 5, 6, 8, 10, 12] (Go.bits .and .i64 ((rd_T31 l0 x5_1).f2) 7))) + (rd [2, 3, 4, 5, 6, 8, 10, 12] (Go.bits .and .i64 ((rd_T31 l0 x5_1).f2) 7)))) (rd [2, 3, 4, 5, 6, 8, 10, 12] (Go.bits .and .i64 ((rd_T31 l0 x5_1).f2) 7))))))), wrap64 (1 + (Int.tmod (wrap64 ((Int.tmod ((rd_T31 l0 x5_1).f1) (rd [2, 3, 4, 5, 6, 8, 10, 12] (Go.bits .and .i64 ((rd_T31 l0 x5_1).f2) 7))) + (rd [2, 3, 4, 5, 6, 8, 10, 12] (Go.bits .and .i64 ((rd_T31 l0 x5_1).f2) 7)))) (rd [2, 3, 4, 5, 6, 8, 10, 12] (Go.bits .and .i64 ((rd_T31 l0 x5_1).f2) 7)))), rd [2, 3, 4, 5, 6, 8, 10, 12] (Go.bits .and .i64 ((rd_T31 l0 x5_1).f2) 7), wrap64 (1 + (Int.tmod (Go.bits .and .i64 (((rd_T31 l0 x5_1).f2) / 8) 15) 15))⟩ : S28)]) := ⟨_, rfl⟩
                      replace H : (horariumlaw12_made.l0 k1 l0 y157 (wrap64 (x5_1 + 1)) 2 3 4 5 6 8 10 12) = some r := by first | (rw [hy157]; with_reducible exact H) | (have H2_ := (Option.bind_some _ _).symm.trans H; rw [hy157]; with_reducible exact H2_) | (have H2_ := (Option.bind_some _ _).symm.trans H; with_reducible exact H2_) | with_reducible exact H | (rw [hy157]; exact H) | exact H
                      have Ny157 := Aside0.mk hy157
                      clear hy157
                      have H' := Aside0.mk H
                      clear H
                      have p153 : 0 ≤ (x5_1 : Int) := of_decide_eq_true (by first | (with_reducible assumption) | assumption)
                      have q153 : x5_1 < (l0.length : Int) := of_decide_eq_true (by first | (with_reducible assumption) | assumption)
                      obtain ⟨ad153, e153, hx153_0, hx153_1, hx153_2⟩ := at_T31 HR0.out x5_1 p153 q153
                      cases e153
                      replace hx153_0 := (HB.out.cell (World.block_lt_of_cell? w _ hx153_0)).trans hx153_0
                      replace hx153_1 := (HB.out.cell (World.block_lt_of_cell? w _ hx153_1)).trans hx153_1
                      replace hx153_2 := (HB.out.cell (World.block_lt_of_cell? w _ hx153_2)).trans hx153_2
                      replace p153 := eq_true p153
                      replace q153 := eq_true q153
                      have hcz12_0 : wr.cell? ⟨gb152, 0, none⟩ = some (.int .i64 2) := (blk_cell BK152.out 0).trans rfl
                      have hcz12_1 : wr.cell? ⟨gb152, 1, none⟩ = some (.int .i64 3) := (blk_cell BK152.out 1).trans rfl
                      have hcz12_2 : wr.cell? ⟨gb152, 2, none⟩ = some (.int .i64 4) := (blk_cell BK152.out 2).trans rfl
                      have hcz12_3 : wr.cell? ⟨gb152, 3, none⟩ = some (.int .i64 5) := (blk_cell BK152.out 3).trans rfl
                      have hcz12_4 : wr.cell? ⟨gb152, 4, none⟩ = some (.int .i64 6) := (blk_cell BK152.out 4).trans rfl
                      have hcz12_5 : wr.cell? ⟨gb152, 5, none⟩ = some (.int .i64 8) := (blk_cell BK152.out 5).trans rfl
                      have hcz12_6 : wr.cell? ⟨gb152, 6, none⟩ = some (.int .i64 10) := (blk_cell BK152.out 6).trans rfl
                      have hcz12_7 : wr.cell? ⟨gb152, 7, none⟩ = some (.int .i64 12) := (blk_cell BK152.out 7).trans rfl
                      have hfz12_0 := blk_frozen BK152.out 0
                      have hfz12_1 := blk_frozen BK152.out 1
                      have hfz12_2 := blk_frozen BK152.out 2
                      have hfz12_3 := blk_frozen BK152.out 3
                      have hfz12_4 := blk_frozen BK152.out 4
                      have hfz12_5 := blk_frozen BK152.out 5
                      have hfz12_6 := blk_frozen BK152.out 6
                      have hfz12_7 := blk_frozen BK152.out 7
                      have hcp13 : 0 ≤ (Go.bits .and .i64 ((rd_T31 l0 x5_1).f2) 7) := (of_decide_eq_true (by first | (with_reducible assumption) | assumption))
                      have hcq13 : (Go.bits .and .i64 ((rd_T31 l0 x5_1).f2) 7) < 8 := (of_decide_eq_true (by first | (with_reducible assumption) | assumption))
                      have hcd13 : wr.cell? ⟨gb152, (Go.bits .and .i64 ((rd_T31 l0 x5_1).f2) 7).toNat, none⟩ = some (.int .i64 (rd [2, 3, 4, 5, 6, 8, 10, 12] (Go.bits .and .i64 ((rd_T31 l0 x5_1).f2) 7))) := dyn_cell BK152.out [2, 3, 4, 5, 6, 8, 10, 12] rfl (Go.bits .and .i64 ((rd_T31 l0 x5_1).f2) 7) hcp13 hcq13
                      replace hcp13 := eq_true hcp13
                      replace hcq13 := eq_true hcq13
                      have p154 : 0 ≤ (x5_1 : Int) := of_decide_eq_true (by first | (with_reducible assumption) | assumption)
                      have q154 : x5_1 < (l0.length : Int) := of_decide_eq_true (by first | (with_reducible assumption) | assumption)
                      obtain ⟨ad154, e154, hx154_0, hx154_1, hx154_2⟩ := at_T31 HR0.out x5_1 p154 q154
                      obtain rfl : ad153 = ad154 := (by injection e154)
                      replace hx154_0 := (HB.out.cell (World.block_lt_of_cell? w _ hx154_0)).trans hx154_0
                      replace hx154_1 := (HB.out.cell (World.block_lt_of_cell? w _ hx154_1)).trans hx154_1
                      replace hx154_2 := (HB.out.cell (World.block_lt_of_cell? w _ hx154_2)).trans hx154_2
                      replace p154 := eq_true p154
                      replace q154 := eq_true q154
                      try go_wp2
                      have n0_ := Aside0.mk (Kd.R_drew HO_4.out)
                      have n1_ := Aside0.mk (blk_drew BK152.out)
                      have n2_ := Aside0.mk (below_drew1 HB.out)
                      clear HO_4
                      clear BK152
                      clear HB
                      have HO_4 := n0_
                      have BK152 := n1_
                      have HB := n2_
                      clear n0_ n1_ n2_
                      have p155 : 0 ≤ (x5_1 : Int) := of_decide_eq_true (by first | (with_reducible assumption) | assumption)
                      have q155 : x5_1 < (l0.length : Int) := of_decide_eq_true (by first | (with_reducible assumption) | assumption)
                      obtain ⟨ad155, e155, hx155_0, hx155_1, hx155_2⟩ := at_T31 HR0.out x5_1 p155 q155
                      have hw155_2 := hx155_2
                      have hw155_1 := hx155_1
                      have hw155_0 := hx155_0
                      obtain rfl : ad153 = ad155 := (by injection e155)
                      replace hx155_0 := (HB.out.cell (World.block_lt_of_cell? w _ hx155_0)).trans hx155_0
                      replace hx155_1 := (HB.out.cell (World.block_lt_of_cell? w _ hx155_1)).trans hx155_1
                      replace hx155_2 := (HB.out.cell (World.block_lt_of_cell? w _ hx155_2)).trans hx155_2
                      replace p155 := eq_true p155
                      replace q155 := eq_true q155
                      have p156 : 0 ≤ (x5_1 : Int) := of_decide_eq_true (by first | (with_reducible assumption) | assumption)
                      have q156 : x5_1 < (l0.length : Int) := of_decide_eq_true (by first | (with_reducible assumption) | assumption)
                      obtain ⟨ad156, e156, hx156_0, hx156_1, hx156_2⟩ := at_T31 HR0.out x5_1 p156 q156
                      have hw156_2 := hx156_2
                      have hw156_1 := hx156_1
                      have hw156_0 := hx156_0
                      obtain rfl : ad153 = ad156 := (by injection e156)
                      replace hx156_0 := (HB.out.cell (World.block_lt_of_cell? w _ hx156_0)).trans hx156_0
                      replace hx156_1 := (HB.out.cell (World.block_lt_of_cell? w _ hx156_1)).trans hx156_1
                      replace hx156_2 := (HB.out.cell (World.block_lt_of_cell? w _ hx156_2)).trans hx156_2
                      replace p156 := eq_true p156
                      replace q156 := eq_true q156
                      refine start_ (n := 29) (S := fun w' => w'.cell? (ad153.add ((x5_1).toNat * 3)) = some (.int .i64 ((rd_T31 l0 x5_1).f0)) ∧ w'.cell? ⟨(ad153.add ((x5_1).toNat * 3)).block, (ad153.add ((x5_1).toNat * 3)).off + 1, none⟩ = some (.int .i64 ((rd_T31 l0 x5_1).f1)) ∧ w'.cell? ⟨(ad153.add ((x5_1).toNat * 3)).block, (ad153.add ((x5_1).toNat * 3)).off + 2, none⟩ = some (.int .i64 ((rd_T31 l0 x5_1).f2)) ∧ w'.cell? (ad153.add ((x5_1).toNat * 3)) = some (.int .i64 ((rd_T31 l0 x5_1).f0)) ∧ w'.cell? ⟨(ad153.add ((x5_1).toNat * 3)).block, (ad153.add ((x5_1).toNat * 3)).off + 1, none⟩ = some (.int .i64 ((rd_T31 l0 x5_1).f1)) ∧ w'.cell? ⟨(ad153.add ((x5_1).toNat * 3)).block, (ad153.add ((x5_1).toNat * 3)).off + 2, none⟩ = some (.int .i64 ((rd_T31 l0 x5_1).f2))) (ds := []) #[false, false, false, false, false, false, false, false, false, false, false, false, false, false, false, false, false, false, false, false, false, false, false, false, false, false, false, false, false] (by kernel_rfl) rfl rfl ⟨((HB.out.cell (World.block_lt_of_cell? w _ hw155_0)).trans hw155_0), ((HB.out.cell (World.block_lt_of_cell? w _ hw155_1)).trans hw155_1), ((HB.out.cell (World.block_lt_of_cell? w _ hw155_2)).trans hw155_2), ((HB.out.cell (World.block_lt_of_cell? w _ hw156_0)).trans hw156_0), ((HB.out.cell (World.block_lt_of_cell? w _ hw156_1)).trans hw156_1), ((HB.out.cell (World.block_lt_of_cell? w _ hw156_2)).trans hw156_2)⟩ (fun hHeld => ?_); refine with_tabW horariumlaw12_made.tab8 horariumlaw12_made.bits8 (fun HT_ HW_ => ?_)
                      generalize wr.drew = w14 at HO_4 BK152 HB hx155_0 hx155_1 hx155_2 hx156_0 hx156_1 hx156_2 hHeld ⊢
                      refine pure_ (i := 0) (N := some 39) (v := ?_) (a' := ?_) #[true, false, false, false, false, false, false, false, false, false, false, false, false, false, false, false, false, false, false, false, false, false, false, false, false, false, false, false, false] rfl rfl (any_of HT_.out (by kernel_rfl)) (fun _ _ _ h => h) (Or.inl ⟨by rfl, ?_⟩) ?_ ?_
                      rotate_left
                      · intro w'
                        go_simp
                        with_reducible rfl
                      rotate_left
                      · simp only [Act.put, List.setIfInBounds_toArray, List.set_cons_zero, List.set_cons_succ, i64_w, i32_w]
                        rfl
                      refine pure_ (i := 1) (N := some 40) (v := ?_) (a' := ?_) #[true, true, false, false, false, false, false, false, false, false, false, false, false, false, false, false, false, false, false, false, false, false, false, false, false, false, false, false, false] rfl rfl (any_of HT_.out (by kernel_rfl)) (fun _ _ _ h => h) (Or.inl ⟨by rfl, ?_⟩) ?_ ?_
                      rotate_left
                      · intro w'
                        go_simp
                        with_reducible rfl
                      rotate_left
                      · simp only [Act.put, List.setIfInBounds_toArray, List.set_cons_zero, List.set_cons_succ, i64_w, i32_w]
                        rfl
                      refine pure_ (i := 2) (N := some 41) (v := ?_) (a' := ?_) #[true, true, true, false, false, false, false, false, false, false, false, false, false, false, false, false, false, false, false, false, false, false, false, false, false, false, false, false, false] rfl rfl (any_of HT_.out (by kernel_rfl)) (fun _ _ _ h => h) (Or.inl ⟨by rfl, ?_⟩) ?_ ?_
                      rotate_left
                      · intro w'
                        go_simp
                        with_reducible rfl
                      rotate_left
                      · simp only [Act.put, List.setIfInBounds_toArray, List.set_cons_zero, List.set_cons_succ, i64_w, i32_w]
                        rfl
                      refine pure_ (i := 3) (N := some 42) (v := ?_) (a' := ?_) #[true, true, true, true, false, false, false, false, false, false, false, false, false, false, false, false, false, false, false, false, false, false, false, false, false, false, false, false, false] rfl rfl (any_of HT_.out (by kernel_rfl)) (fun _ _ _ h => h) (Or.inl ⟨by rfl, ?_⟩) ?_ ?_
                      rotate_left
                      · intro w'
                        go_simp
                        with_reducible rfl
                      rotate_left
                      · simp only [Act.put, List.setIfInBounds_toArray, List.set_cons_zero, List.set_cons_succ, i64_w, i32_w]
                        rfl
                      refine pure_ (i := 4) (N := some 43) (v := ?_) (a' := ?_) #[true, true, true, true, true, false, false, false, false, false, false, false, false, false, false, false, false, false, false, false, false, false, false, false, false, false, false, false, false] rfl rfl (any_of HT_.out (by kernel_rfl)) (fun _ _ _ h => h) (Or.inl ⟨by rfl, ?_⟩) ?_ ?_
                      rotate_left
                      · intro w'
                        go_simp
                        with_reducible rfl
                      rotate_left
                      · simp only [Act.put, List.setIfInBounds_toArray, List.set_cons_zero, List.set_cons_succ, i64_w, i32_w]
                        rfl
                      refine pure_ (i := 5) (N := some 44) (v := ?_) (a' := ?_) #[true, true, true, true, true, true, false, false, false, false, false, false, false, false, false, false, false, false, false, false, false, false, false, false, false, false, false, false, false] rfl rfl (any_of HT_.out (by kernel_rfl)) (fun _ _ _ h => h) (Or.inl ⟨by rfl, ?_⟩) ?_ ?_
                      rotate_left
                      · intro w'
                        go_simp
                        with_reducible rfl
                      rotate_left
                      · simp only [Act.put, List.setIfInBounds_toArray, List.set_cons_zero, List.set_cons_succ, i64_w, i32_w]
                        rfl
                      refine pure_ (i := 7) (N := some 46) (v := ?_) (a' := ?_) #[true, true, true, true, true, true, false, true, false, false, false, false, false, false, false, false, false, false, false, false, false, false, false, false, false, false, false, false, false] rfl rfl (any_of HT_.out (by kernel_rfl)) (fun _ _ _ h => h) (Or.inl ⟨by rfl, ?_⟩) ?_ ?_
                      rotate_left
                      · intro w'
                        go_simp
                        with_reducible rfl
                      rotate_left
                      · simp only [Act.put, List.setIfInBounds_toArray, List.set_cons_zero, List.set_cons_succ, i64_w, i32_w]
                        rfl
                      refine pure_ (i := 9) (N := some 48) (v := ?_) (a' := ?_) #[true, true, true, true, true, true, false, true, false, true, false, false, false, false, false, false, false, false, false, false, false, false, false, false, false, false, false, false, false] rfl rfl (any_of HT_.out (by kernel_rfl)) (fun _ _ _ h => h) (Or.inl ⟨by rfl, ?_⟩) ?_ ?_
                      rotate_left
                      · intro w'
                        go_simp
                        with_reducible rfl
                      rotate_left
                      · simp only [Act.put, List.setIfInBounds_toArray, List.set_cons_zero, List.set_cons_succ, i64_w, i32_w]
                        rfl
                      refine pure_ (i := 11) (N := some 50) (v := ?_) (a' := ?_) #[true, true, true, true, true, true, false, true, false, true, false, true, false, false, false, false, false, false, false, false, false, false, false, false, false, false, false, false, false] rfl rfl (any_of HT_.out (by kernel_rfl)) (fun _ _ _ h => h) (Or.inl ⟨by rfl, ?_⟩) ?_ ?_
                      rotate_left
                      · intro w'
                        go_simp
                        with_reducible rfl
                      rotate_left
                      · simp only [Act.put, List.setIfInBounds_toArray, List.set_cons_zero, List.set_cons_succ, i64_w, i32_w]
                        rfl
                      refine pure_ (i := 14) (N := some 53) (v := ?_) (a' := ?_) #[true, true, true, true, true, true, false, true, false, true, false, true, false, false, true, false, false, false, false, false, false, false, false, false, false, false, false, false, false] rfl rfl (any_of HT_.out (by kernel_rfl)) (fun _ _ _ h => h) (Or.inl ⟨by rfl, ?_⟩) ?_ ?_
                      rotate_left
                      · intro w'
                        go_simp
                        with_reducible rfl
                      rotate_left
                      · simp only [Act.put, List.setIfInBounds_toArray, List.set_cons_zero, List.set_cons_succ, i64_w, i32_w]
                        rfl
                      refine pure_ (i := 15) (N := some 54) (v := ?_) (a' := ?_) #[true, true, true, true, true, true, false, true, false, true, false, true, false, false, true, true, false, false, false, false, false, false, false, false, false, false, false, false, false] rfl rfl (any_of HT_.out (by kernel_rfl)) (fun _ _ _ h => h) (Or.inl ⟨by rfl, ?_⟩) ?_ ?_
                      rotate_left
                      · intro w'
                        go_simp
                        with_reducible rfl
                      rotate_left
                      · simp only [Act.put, List.setIfInBounds_toArray, List.set_cons_zero, List.set_cons_succ, i64_w, i32_w]
                        rfl
                      refine pure_ (i := 16) (N := some 55) (v := ?_) (a' := ?_) #[true, true, true, true, true, true, false, true, false, true, false, true, false, false, true, true, true, false, false, false, false, false, false, false, false, false, false, false, false] rfl rfl (any_of HT_.out (by kernel_rfl)) (fun _ _ _ h => h) (Or.inl ⟨by rfl, ?_⟩) ?_ ?_
                      rotate_left
                      · intro w'
                        go_simp
                        with_reducible rfl
                      rotate_left
                      · simp only [Act.put, List.setIfInBounds_toArray, List.set_cons_zero, List.set_cons_succ, i64_w, i32_w]
                        rfl
                      refine pure_ (i := 17) (N := some 56) (v := ?_) (a' := ?_) #[true, true, true, true, true, true, false, true, false, true, false, true, false, false, true, true, true, true, false, false, false, false, false, false, false, false, false, false, false] rfl rfl (any_of HT_.out (by kernel_rfl)) (fun _ _ _ h => h) (Or.inl ⟨by rfl, ?_⟩) ?_ ?_
                      rotate_left
                      · intro w'
                        go_simp
                        with_reducible rfl
                      rotate_left
                      · simp only [Act.put, List.setIfInBounds_toArray, List.set_cons_zero, List.set_cons_succ, i64_w, i32_w]
                        rfl
                      refine pure_ (i := 18) (N := some 57) (v := ?_) (a' := ?_) #[true, true, true, true, true, true, false, true, false, true, false, true, false, false, true, true, true, true, true, false, false, false, false, false, false, false, false, false, false] rfl rfl (any_of HT_.out (by kernel_rfl)) (fun _ _ _ h => h) (Or.inl ⟨by rfl, ?_⟩) ?_ ?_
                      rotate_left
                      · intro w'
                        go_simp
                        with_reducible rfl
                      rotate_left
                      · simp only [Act.put, List.setIfInBounds_toArray, List.set_cons_zero, List.set_cons_succ, i64_w, i32_w]
                        rfl
                      refine pure_ (i := 19) (N := some 58) (v := ?_) (a' := ?_) #[true, true, true, true, true, true, false, true, false, true, false, true, false, false, true, true, true, true, true, true, false, false, false, false, false, false, false, false, false] rfl rfl (any_of HT_.out (by kernel_rfl)) (fun _ _ _ h => h) (Or.inl ⟨by rfl, ?_⟩) ?_ ?_
                      rotate_left
                      · intro w'
                        go_simp
                        with_reducible rfl
                      rotate_left
                      · simp only [Act.put, List.setIfInBounds_toArray, List.set_cons_zero, List.set_cons_succ, i64_w, i32_w]
                        rfl
                      refine take_ (i := 6) (N := some 45) (v := ?_) (a' := ?_) #[true, true, true, true, true, true, true, true, false, true, false, true, false, false, true, true, true, true, true, true, false, false, false, false, false, false, false, false, false] rfl rfl (take_ofW HT_.out HW_.out (by kernel_rfl)) (fun _ _ _ h => h) (Or.inl ⟨by rfl, ?_⟩) hHeld ?_ ?_
                      rotate_left
                      · rintro w' ⟨s0, s1, s2, s3, s4, s5⟩
                        go_simp
                        with_reducible rfl
                      rotate_left
                      · simp only [Act.put, List.setIfInBounds_toArray, List.set_cons_zero, List.set_cons_succ, i64_w, i32_w]
                        rfl
                      refine pure_ (i := 8) (N := some 47) (v := ?_) (a' := ?_) #[true, true, true, true, true, true, true, true, true, true, false, true, false, false, true, true, true, true, true, true, false, false, false, false, false, false, false, false, false] rfl rfl (any_of HT_.out (by kernel_rfl)) (fun _ _ _ h => h) (Or.inl ⟨by rfl, ?_⟩) ?_ ?_
                      rotate_left
                      · intro w'
                        go_simp
                        with_reducible rfl
                      rotate_left
                      · simp only [Act.put, List.setIfInBounds_toArray, List.set_cons_zero, List.set_cons_succ, i64_w, i32_w]
                        rfl
                      refine pure_ (i := 10) (N := some 49) (v := ?_) (a' := ?_) #[true, true, true, true, true, true, true, true, true, true, true, true, false, false, true, true, true, true, true, true, false, false, false, false, false, false, false, false, false] rfl rfl (any_of HT_.out (by kernel_rfl)) (fun _ _ _ h => h) (Or.inl ⟨by rfl, ?_⟩) ?_ ?_
                      rotate_left
                      · intro w'
                        go_simp
                        with_reducible rfl
                      rotate_left
                      · simp only [Act.put, List.setIfInBounds_toArray, List.set_cons_zero, List.set_cons_succ, i64_w, i32_w]
                        rfl
                      refine pure_ (i := 12) (N := some 51) (v := ?_) (a' := ?_) #[true, true, true, true, true, true, true, true, true, true, true, true, true, false, true, true, true, true, true, true, false, false, false, false, false, false, false, false, false] rfl rfl (any_of HT_.out (by kernel_rfl)) (fun _ _ _ h => h) (Or.inl ⟨by rfl, ?_⟩) ?_ ?_
                      rotate_left
                      · intro w'
                        go_simp
                        with_reducible rfl
                      rotate_left
                      · simp only [Act.put, List.setIfInBounds_toArray, List.set_cons_zero, List.set_cons_succ, i64_w, i32_w]
                        rfl
                      refine pure_ (i := 13) (N := some 52) (v := ?_) (a' := ?_) #[true, true, true, true, true, true, true, true, true, true, true, true, true, true, true, true, true, true, true, true, false, false, false, false, false, false, false, false, false] rfl rfl (any_of HT_.out (by kernel_rfl)) (fun _ _ _ h => h) (Or.inl ⟨by rfl, ?_⟩) ?_ ?_
                      rotate_left
                      · intro w'
                        go_simp
                        with_reducible rfl
                      rotate_left
                      · simp only [Act.put, List.setIfInBounds_toArray, List.set_cons_zero, List.set_cons_succ, i64_w, i32_w]
                        rfl
                      refine take_ (i := 20) (N := some 59) (v := ?_) (a' := ?_) #[true, true, true, true, true, true, true, true, true, true, true, true, true, true, true, true, true, true, true, true, true, false, false, false, false, false, false, false, false] rfl rfl (take_ofW HT_.out HW_.out (by kernel_rfl)) (fun _ _ _ h => h) (Or.inl ⟨by rfl, ?_⟩) hHeld ?_ ?_
                      rotate_left
                      · rintro w' ⟨s0, s1, s2, s3, s4, s5⟩
                        go_simp
                        with_reducible rfl
                      rotate_left
                      · simp only [Act.put, List.setIfInBounds_toArray, List.set_cons_zero, List.set_cons_succ, i64_w, i32_w]
                        rfl
                      refine pure_ (i := 21) (N := some 60) (v := ?_) (a' := ?_) #[true, true, true, true, true, true, true, true, true, true, true, true, true, true, true, true, true, true, true, true, true, true, false, false, false, false, false, false, false] rfl rfl (any_of HT_.out (by kernel_rfl)) (fun _ _ _ h => h) (Or.inl ⟨by rfl, ?_⟩) ?_ ?_
                      rotate_left
                      · intro w'
                        go_simp
                        with_reducible rfl
                      rotate_left
                      · simp only [Act.put, List.setIfInBounds_toArray, List.set_cons_zero, List.set_cons_succ, i64_w, i32_w]
                        rfl
                      refine pure_ (i := 22) (N := some 61) (v := ?_) (a' := ?_) #[true, true, true, true, true, true, true, true, true, true, true, true, true, true, true, true, true, true, true, true, true, true, true, false, false, false, false, false, false] rfl rfl (any_of HT_.out (by kernel_rfl)) (fun _ _ _ h => h) (Or.inl ⟨by rfl, ?_⟩) ?_ ?_
                      rotate_left
                      · intro w'
                        go_simp
                        with_reducible rfl
                      rotate_left
                      · simp only [Act.put, List.setIfInBounds_toArray, List.set_cons_zero, List.set_cons_succ, i64_w, i32_w]
                        rfl
                      refine pure_ (i := 23) (N := some 62) (v := ?_) (a' := ?_) #[true, true, true, true, true, true, true, true, true, true, true, true, true, true, true, true, true, true, true, true, true, true, true, true, false, false, false, false, false] rfl rfl (any_of HT_.out (by kernel_rfl)) (fun _ _ _ h => h) (Or.inl ⟨by rfl, ?_⟩) ?_ ?_
                      rotate_left
                      · intro w'
                        go_simp
                        with_reducible rfl
                      rotate_left
                      · simp only [Act.put, List.setIfInBounds_toArray, List.set_cons_zero, List.set_cons_succ, i64_w, i32_w]
                        rfl
                      refine pure_ (i := 24) (N := some 63) (v := ?_) (a' := ?_) #[true, true, true, true, true, true, true, true, true, true, true, true, true, true, true, true, true, true, true, true, true, true, true, true, true, false, false, false, false] rfl rfl (any_of HT_.out (by kernel_rfl)) (fun _ _ _ h => h) (Or.inl ⟨by rfl, ?_⟩) ?_ ?_
                      rotate_left
                      · intro w'
                        go_simp
                        with_reducible rfl
                      rotate_left
                      · simp only [Act.put, List.setIfInBounds_toArray, List.set_cons_zero, List.set_cons_succ, i64_w, i32_w]
                        rfl
                      refine pure_ (i := 25) (N := some 64) (v := ?_) (a' := ?_) #[true, true, true, true, true, true, true, true, true, true, true, true, true, true, true, true, true, true, true, true, true, true, true, true, true, true, false, false, false] rfl rfl (any_of HT_.out (by kernel_rfl)) (fun _ _ _ h => h) (Or.inl ⟨by rfl, ?_⟩) ?_ ?_
                      rotate_left
                      · intro w'
                        go_simp
                        with_reducible rfl
                      rotate_left
                      · simp only [Act.put, List.setIfInBounds_toArray, List.set_cons_zero, List.set_cons_succ, i64_w, i32_w]
                        rfl
                      refine one_ (i := 26) (N := some 65) #[true, true, true, true, true, true, true, true, true, true, true, true, true, true, true, true, true, true, true, true, true, true, true, true, true, true, true, false, false] rfl rfl (one_of HT_.out (by kernel_rfl)) (by decide) (fun K hK => ?_)
                      refine value_ (w1 := ?_) (v := ?_) (by rfl) rfl ?_ ?_
                      rotate_left 2
                      · go_simp
                        constructor
                        · rfl
                        · rfl
                      refine hK.out _ _ ⟨(World.cell?_alloc_lt _ _ _ (World.block_lt_of_cell? _ _ (((HB.out.cell (World.block_lt_of_cell? w _ hw155_0)).trans hw155_0)))).trans (((HB.out.cell (World.block_lt_of_cell? w _ hw155_0)).trans hw155_0)), (World.cell?_alloc_lt _ _ _ (World.block_lt_of_cell? _ _ (((HB.out.cell (World.block_lt_of_cell? w _ hw155_1)).trans hw155_1)))).trans (((HB.out.cell (World.block_lt_of_cell? w _ hw155_1)).trans hw155_1)), (World.cell?_alloc_lt _ _ _ (World.block_lt_of_cell? _ _ (((HB.out.cell (World.block_lt_of_cell? w _ hw155_2)).trans hw155_2)))).trans (((HB.out.cell (World.block_lt_of_cell? w _ hw155_2)).trans hw155_2)), (World.cell?_alloc_lt _ _ _ (World.block_lt_of_cell? _ _ (((HB.out.cell (World.block_lt_of_cell? w _ hw156_0)).trans hw156_0)))).trans (((HB.out.cell (World.block_lt_of_cell? w _ hw156_0)).trans hw156_0)), (World.cell?_alloc_lt _ _ _ (World.block_lt_of_cell? _ _ (((HB.out.cell (World.block_lt_of_cell? w _ hw156_1)).trans hw156_1)))).trans (((HB.out.cell (World.block_lt_of_cell? w _ hw156_1)).trans hw156_1)), (World.cell?_alloc_lt _ _ _ (World.block_lt_of_cell? _ _ (((HB.out.cell (World.block_lt_of_cell? w _ hw156_2)).trans hw156_2)))).trans (((HB.out.cell (World.block_lt_of_cell? w _ hw156_2)).trans hw156_2))⟩ (fun hHeld => ?_)
                      clear hK K
                      refine norm_ (a' := ?_) ?_ ?_
                      rotate_left
                      · show Act.put _ (some 65) _ = _
                        simp only [Act.put, List.setIfInBounds_toArray, List.set_cons_zero, List.set_cons_succ, i64_w, i32_w]
                        rfl
                      refine one_ (i := 27) (N := some 66) #[true, true, true, true, true, true, true, true, true, true, true, true, true, true, true, true, true, true, true, true, true, true, true, true, true, true, true, true, false] rfl rfl (one_of HT_.out (by kernel_rfl)) (by decide) (fun K hK => ?_)
                      refine Kd.R_append_step k28 (w0 := w) w.heap.size (by rfl) (.tmp 39) (.tmp 65) 24 28 (.agg #[(.int .i64 0), (.int .i64 0), (.int .i64 0), (.int .i64 0), (.int .i64 0)]) 40 rfl Try.underlying24 info28 rfl (by decide) (by omega) u4 x4_1 (⟨x5_1, wrap64 (1 + (Int.tmod (wrap64 ((Int.tmod ((rd_T31 l0 x5_1).f0) (wrap64 (1 + (Int.tmod (wrap64 ((Int.tmod ((rd_T31 l0 x5_1).f1) (rd [2, 3, 4, 5, 6, 8, 10, 12] (Go.bits .and .i64 ((rd_T31 l0 x5_1).f2) 7))) + (rd [2, 3, 4, 5, 6, 8, 10, 12] (Go.bits .and .i64 ((rd_T31 l0 x5_1).f2) 7)))) (rd [2, 3, 4, 5, 6, 8, 10, 12] (Go.bits .and .i64 ((rd_T31 l0 x5_1).f2) 7)))))) + (wrap64 (1 + (Int.tmod (wrap64 ((Int.tmod ((rd_T31 l0 x5_1).f1) (rd [2, 3, 4, 5, 6, 8, 10, 12] (Go.bits .and .i64 ((rd_T31 l0 x5_1).f2) 7))) + (rd [2, 3, 4, 5, 6, 8, 10, 12] (Go.bits .and .i64 ((rd_T31 l0 x5_1).f2) 7)))) (rd [2, 3, 4, 5, 6, 8, 10, 12] (Go.bits .and .i64 ((rd_T31 l0 x5_1).f2) 7))))))) (wrap64 (1 + (Int.tmod (wrap64 ((Int.tmod ((rd_T31 l0 x5_1).f1) (rd [2, 3, 4, 5, 6, 8, 10, 12] (Go.bits .and .i64 ((rd_T31 l0 x5_1).f2) 7))) + (rd [2, 3, 4, 5, 6, 8, 10, 12] (Go.bits .and .i64 ((rd_T31 l0 x5_1).f2) 7)))) (rd [2, 3, 4, 5, 6, 8, 10, 12] (Go.bits .and .i64 ((rd_T31 l0 x5_1).f2) 7))))))), wrap64 (1 + (Int.tmod (wrap64 ((Int.tmod ((rd_T31 l0 x5_1).f1) (rd [2, 3, 4, 5, 6, 8, 10, 12] (Go.bits .and .i64 ((rd_T31 l0 x5_1).f2) 7))) + (rd [2, 3, 4, 5, 6, 8, 10, 12] (Go.bits .and .i64 ((rd_T31 l0 x5_1).f2) 7)))) (rd [2, 3, 4, 5, 6, 8, 10, 12] (Go.bits .and .i64 ((rd_T31 l0 x5_1).f2) 7)))), rd [2, 3, 4, 5, 6, 8, 10, 12] (Go.bits .and .i64 ((rd_T31 l0 x5_1).f2) 7), wrap64 (1 + (Int.tmod (Go.bits .and .i64 (((rd_T31 l0 x5_1).f2) / 8) 15) 15))⟩ : S28) [.int .i64 x5_1, .int .i64 (wrap64 (1 + (Int.tmod (wrap64 ((Int.tmod ((rd_T31 l0 x5_1).f0) (wrap64 (1 + (Int.tmod (wrap64 ((Int.tmod ((rd_T31 l0 x5_1).f1) (rd [2, 3, 4, 5, 6, 8, 10, 12] (Go.bits .and .i64 ((rd_T31 l0 x5_1).f2) 7))) + (rd [2, 3, 4, 5, 6, 8, 10, 12] (Go.bits .and .i64 ((rd_T31 l0 x5_1).f2) 7)))) (rd [2, 3, 4, 5, 6, 8, 10, 12] (Go.bits .and .i64 ((rd_T31 l0 x5_1).f2) 7)))))) + (wrap64 (1 + (Int.tmod (wrap64 ((Int.tmod ((rd_T31 l0 x5_1).f1) (rd [2, 3, 4, 5, 6, 8, 10, 12] (Go.bits .and .i64 ((rd_T31 l0 x5_1).f2) 7))) + (rd [2, 3, 4, 5, 6, 8, 10, 12] (Go.bits .and .i64 ((rd_T31 l0 x5_1).f2) 7)))) (rd [2, 3, 4, 5, 6, 8, 10, 12] (Go.bits .and .i64 ((rd_T31 l0 x5_1).f2) 7))))))) (wrap64 (1 + (Int.tmod (wrap64 ((Int.tmod ((rd_T31 l0 x5_1).f1) (rd [2, 3, 4, 5, 6, 8, 10, 12] (Go.bits .and .i64 ((rd_T31 l0 x5_1).f2) 7))) + (rd [2, 3, 4, 5, 6, 8, 10, 12] (Go.bits .and .i64 ((rd_T31 l0 x5_1).f2) 7)))) (rd [2, 3, 4, 5, 6, 8, 10, 12] (Go.bits .and .i64 ((rd_T31 l0 x5_1).f2) 7)))))))), .int .i64 (wrap64 (1 + (Int.tmod (wrap64 ((Int.tmod ((rd_T31 l0 x5_1).f1) (rd [2, 3, 4, 5, 6, 8, 10, 12] (Go.bits .and .i64 ((rd_T31 l0 x5_1).f2) 7))) + (rd [2, 3, 4, 5, 6, 8, 10, 12] (Go.bits .and .i64 ((rd_T31 l0 x5_1).f2) 7)))) (rd [2, 3, 4, 5, 6, 8, 10, 12] (Go.bits .and .i64 ((rd_T31 l0 x5_1).f2) 7))))), .int .i64 (rd [2, 3, 4, 5, 6, 8, 10, 12] (Go.bits .and .i64 ((rd_T31 l0 x5_1).f2) 7)), .int .i64 (wrap64 (1 + (Int.tmod (Go.bits .and .i64 (((rd_T31 l0 x5_1).f2) / 8) 15) 15)))] (fun _ => True) (fun _ => False) rfl rfl ?aP (fun _ hk => hk.elim) ?aF ?aO ?aB ?aS ?aL ?_
                      (case aP => exact k28_mkM _ _ _ (⟨x5_1, wrap64 (1 + (Int.tmod (wrap64 ((Int.tmod ((rd_T31 l0 x5_1).f0) (wrap64 (1 + (Int.tmod (wrap64 ((Int.tmod ((rd_T31 l0 x5_1).f1) (rd [2, 3, 4, 5, 6, 8, 10, 12] (Go.bits .and .i64 ((rd_T31 l0 x5_1).f2) 7))) + (rd [2, 3, 4, 5, 6, 8, 10, 12] (Go.bits .and .i64 ((rd_T31 l0 x5_1).f2) 7)))) (rd [2, 3, 4, 5, 6, 8, 10, 12] (Go.bits .and .i64 ((rd_T31 l0 x5_1).f2) 7)))))) + (wrap64 (1 + (Int.tmod (wrap64 ((Int.tmod ((rd_T31 l0 x5_1).f1) (rd [2, 3, 4, 5, 6, 8, 10, 12] (Go.bits .and .i64 ((rd_T31 l0 x5_1).f2) 7))) + (rd [2, 3, 4, 5, 6, 8, 10, 12] (Go.bits .and .i64 ((rd_T31 l0 x5_1).f2) 7)))) (rd [2, 3, 4, 5, 6, 8, 10, 12] (Go.bits .and .i64 ((rd_T31 l0 x5_1).f2) 7))))))) (wrap64 (1 + (Int.tmod (wrap64 ((Int.tmod ((rd_T31 l0 x5_1).f1) (rd [2, 3, 4, 5, 6, 8, 10, 12] (Go.bits .and .i64 ((rd_T31 l0 x5_1).f2) 7))) + (rd [2, 3, 4, 5, 6, 8, 10, 12] (Go.bits .and .i64 ((rd_T31 l0 x5_1).f2) 7)))) (rd [2, 3, 4, 5, 6, 8, 10, 12] (Go.bits .and .i64 ((rd_T31 l0 x5_1).f2) 7))))))), wrap64 (1 + (Int.tmod (wrap64 ((Int.tmod ((rd_T31 l0 x5_1).f1) (rd [2, 3, 4, 5, 6, 8, 10, 12] (Go.bits .and .i64 ((rd_T31 l0 x5_1).f2) 7))) + (rd [2, 3, 4, 5, 6, 8, 10, 12] (Go.bits .and .i64 ((rd_T31 l0 x5_1).f2) 7)))) (rd [2, 3, 4, 5, 6, 8, 10, 12] (Go.bits .and .i64 ((rd_T31 l0 x5_1).f2) 7)))), rd [2, 3, 4, 5, 6, 8, 10, 12] (Go.bits .and .i64 ((rd_T31 l0 x5_1).f2) 7), wrap64 (1 + (Int.tmod (Go.bits .and .i64 (((rd_T31 l0 x5_1).f2) / 8) 15) 15))⟩ : S28))
                      (case aB => exact (by repeat (first | (with_reducible first | exact HB.out | apply below_alloc | apply pw_below_drewN | apply below_drew1 | refine below_set ?_ GE152.out) | exact HB.out)))
                      (case aF => exact (fun _ _ => trivial))
                      (case aO => exact (by (with_reducible repeat (first | apply Kd.R_alloc | apply Kd.R_drewN | apply Kd.R_drew)); exact HO_4.out))
                      (case aS => exact (below_size (by repeat (first | (with_reducible first | exact HB.out | apply below_alloc | apply pw_below_drewN | apply below_drew1 | refine below_set ?_ GE152.out) | exact HB.out))))
                      (case aL => have := LMc11.out; omega)
                      intro v158 w15 ho hb hg hat
                      rw [← Ny157.out] at ho
                      have n0_ := Aside0.mk (blk_grown (g := gb152) (o := .cells #[.int .i64 2, .int .i64 3, .int .i64 4, .int .i64 5, .int .i64 6, .int .i64 8, .int .i64 10, .int .i64 12] 54 (0, 0)) (by (with_reducible repeat (first | refine blk_drewN ?_ _ | refine blk_drew ?_ | refine blk_alloc ?_ _)); exact BK152.out) hg (Kd.R_ne HO_4.out BK152.out (by decide)))
                      have n1_ := Aside0.mk (hb)
                      have n2_ := Aside0.mk (ho)
                      clear BK152
                      clear HB
                      clear HO_4
                      have BK152 := n0_
                      have HB := n1_
                      have HO159 := n2_
                      clear n0_ n1_ n2_
                      clear ho hb hg hat
                      refine hK.out _ _ ⟨((HB.out.cell (World.block_lt_of_cell? w _ hw155_0)).trans hw155_0), ((HB.out.cell (World.block_lt_of_cell? w _ hw155_1)).trans hw155_1), ((HB.out.cell (World.block_lt_of_cell? w _ hw155_2)).trans hw155_2), ((HB.out.cell (World.block_lt_of_cell? w _ hw156_0)).trans hw156_0), ((HB.out.cell (World.block_lt_of_cell? w _ hw156_1)).trans hw156_1), ((HB.out.cell (World.block_lt_of_cell? w _ hw156_2)).trans hw156_2)⟩ (fun hHeld => ?_)
                      clear hK K
                      refine norm_ (a' := ?_) ?_ ?_
                      rotate_left
                      · show Act.put _ (some 66) _ = _
                        simp only [Act.put, List.setIfInBounds_toArray, List.set_cons_zero, List.set_cons_succ, i64_w, i32_w]
                        rfl
                      refine pure_ (i := 28) (N := some 4) (v := ?_) (a' := ?_) #[true, true, true, true, true, true, true, true, true, true, true, true, true, true, true, true, true, true, true, true, true, true, true, true, true, true, true, true, true] rfl rfl (any_of HT_.out (by kernel_rfl)) (fun _ _ _ h => h) (Or.inl ⟨by rfl, ?_⟩) ?_ ?_
                      rotate_left
                      · intro w'
                        go_simp
                        with_reducible rfl
                      rotate_left
                      · simp only [Act.put, List.setIfInBounds_toArray, List.set_cons_zero, List.set_cons_succ, i64_w, i32_w]
                        rfl
                      refine done_ (done_of HT_.out (by kernel_rfl)) ?_
                      try go_wp2
                      go_roundg k1
                      case measure => have := HK1.out; omega
                      case rel => exact ⟨(y157), (wrap64 (x5_1 + 1)), (by first | rfl | (simp; done) | (simp [*]; done)), H', ⟨by have := HK1.out; omega⟩, ⟨by (with_reducible repeat (first | apply Kd.R_alloc | apply Kd.R_drewN | apply Kd.R_drew)); exact HO159.out⟩, ⟨by (with_reducible repeat (first | refine blk_drewN ?_ _ | refine blk_drew ?_ | refine blk_alloc ?_ _)); exact BK152.out⟩, ⟨by repeat (first | (with_reducible first | exact HB.out | apply below_alloc | apply pw_below_drewN | apply below_drew1 | refine below_set ?_ GE152.out) | exact HB.out)⟩⟩
                    · rw [if_neg c11] at H
                      exact absurd H (by simp)
              · rw [if_neg c8] at H
                exact absurd H (by simp)
            · rw [if_neg c7] at H
              exact absurd H (by simp)
          · rw [if_neg c6] at H
            exact absurd H (by simp)
        · rw [if_neg c5] at H
          have c5b0 : decide (x5_1 < 8) = false := decide_eq_false c5
          clear c5
          obtain rfl := Option.some.inj H
          go_wp2
          go_ret
          exact ⟨_, by first | rfl | (simp [errW_none, errW_some] <;> rfl) | (simp [*, errW_none, errW_some] <;> rfl), by (with_reducible repeat (first | apply Kd.R_alloc | apply Kd.R_drewN | apply Kd.R_drew)); exact HO_4.out, by repeat (first | (with_reducible first | exact HB.out | apply below_alloc | apply pw_below_drewN | apply below_drew1 | refine below_set ?_ GE152.out) | exact HB.out)⟩
      · rw [if_neg c4] at H
        have c4b0 : decide (x5_1 < (l0.length : Int)) = false := decide_eq_false c4
        clear c4
        obtain rfl := Option.some.inj H
        go_wp2
        go_ret
        exact ⟨_, by first | rfl | (simp [errW_none, errW_some] <;> rfl) | (simp [*, errW_none, errW_some] <;> rfl), by (with_reducible repeat (first | apply Kd.R_alloc | apply Kd.R_drewN | apply Kd.R_drew)); exact HO_4.out, by repeat (first | (with_reducible first | exact HB.out | apply below_alloc | apply pw_below_drewN | apply below_drew1 | refine below_set ?_ GE152.out) | exact HB.out)⟩

/-! ### demand_least: function 79 -/
def demand_least.l0 : Nat → Int → List Int → Int → Int → Option (Int)
  | 0, _, _, _, _ => none
  | k + 1, x3, x9, x10, x11 => if x11 < x10 then (if 0 ≤ x11 then (if x11 < (x9.length : Int) then (demand_least.l0 k (mn x3 (rd x9 x11)) x9 x10 (wrap64 (x11 + 1))) else (none)) else (none)) else (some x3)
def demand_least.f (k : Nat) (l0 : List Int) : Option (Int) := if 0 < (l0.length : Int) then (demand_least.l0 k (rd l0 0) l0 (l0.length : Int) 0) else (none)
theorem demand_least.mono_l : ∀ k, (∀ y0 y1 y2 y3, LeO (demand_least.l0 k y0 y1 y2 y3) (demand_least.l0 (k + 1) y0 y1 y2 y3))
  | 0 => fun _ _ _ _ r h => by simp [demand_least.l0] at h
  | k + 1 => by
    have ih0 := demand_least.mono_l k
    · intro y0 y1 y2 y3
      unfold demand_least.l0
      repeat' first
      | (with_reducible exact ih0 _ _ _ _)
      | (with_reducible exact LeO.refl _)
      | (with_reducible exact LeO.none _)
      | (with_reducible refine LeO.ite ?_ ?_)
      | (with_reducible refine LeO.bind ?_ (fun _ => ?_))
      | exact ih0 _ _ _ _
      | exact LeO.none _
      | refine LeO.ite ?_ ?_
      | refine LeO.bind ?_ (fun _ => ?_)
theorem demand_least.mono : ∀ a0 k, LeO (demand_least.f k a0) (demand_least.f (k + 1) a0) := by
  intro a0 k
  have ih0 := demand_least.mono_l k
  unfold demand_least.f
  repeat' first
      | (with_reducible exact ih0 _ _ _ _)
      | (with_reducible exact LeO.refl _)
      | (with_reducible exact LeO.none _)
      | (with_reducible refine LeO.ite ?_ ?_)
      | (with_reducible refine LeO.bind ?_ (fun _ => ?_))
      | exact ih0 _ _ _ _
      | exact LeO.none _
      | refine LeO.ite ?_ ?_
      | refine LeO.bind ?_ (fun _ => ?_)
set_option maxHeartbeats 8000000 in
set_option maxRecDepth 100000 in
theorem demand_least.calls (k : Nat) (A0 : Option Addr) (c0 : Nat) (l0 : List Int) (r : Int) (w : World) (hr0 : Kd.C (Kd.int .i64) w A0 l0.length l0) (hc0 : l0.length ≤ c0) (h : demand_least.f k l0 = some r) :
    Calls Try.prog 79 #[.slice A0 l0.length c0] w fun e w' => e = .returned (.int .i64 r) ∧ Below w.heap.size w w' := by
  have HR0 := Aside0.mk hr0
  have HC0 := Aside0.mk hc0
  clear hr0 hc0
  have HB := Aside0.mk (Below.refl w.heap.size w)
  have H : (if 0 < (l0.length : Int) then (demand_least.l0 k (rd l0 0) l0 (l0.length : Int) 0) else (none)) = some r := h
  clear h
  by_cases c2 : 0 < (l0.length : Int)
  · rw [if_pos c2] at H
    have c2b0 : decide (0 < (l0.length : Int)) = true := decide_eq_true c2
    have c2b1 : decide (0 < l0.length) = true := decide_eq_true (by omega)
    clear c2
    have H' := Aside0.mk H
    clear H
    have p160 : 0 ≤ (0 : Int) := (by omega)
    have q160 : 0 < (l0.length : Int) := of_decide_eq_true (by first | (with_reducible assumption) | assumption)
    obtain ⟨ad160, e160, hx160_0⟩ := Kd.at_int HR0.out 0 p160 q160
    cases e160
    have qi160 : (0 < l0.length) = True := eq_true (by omega)
    (try rw [show ((0 : Int)).toNat = 0 from rfl] at hx160_0)
    (try rw [Addr.add_zero'] at hx160_0)
    replace p160 := eq_true p160
    replace q160 := eq_true q160
    go_enter Try.func79, Try.ntmps79
    go_wp2
    go_loopg [3, 11] k (fun kq v3 v11 w' => ∃ (x3_1 : Int) (x11_1 : Int), v3 = .int .i64 x3_1 ∧ v11 = .int .i64 x11_1 ∧ Aside0 (demand_least.l0 kq x3_1 l0 (l0.length : Int) x11_1 = some r) ∧ Aside0 (kq ≤ k) ∧ Aside0 (Below w.heap.size w w'))
    case atStart => exact ⟨(rd l0 0), (0), (by first | rfl | (simp; done) | (simp [*]; done)), (by first | rfl | (simp; done) | (simp [*]; done)), H', ⟨Nat.le_refl _⟩, ⟨by repeat (first | (with_reducible first | exact HB.out | apply below_alloc | apply pw_below_drewN | apply below_drew1) | exact HB.out)⟩⟩
    case round =>
      clear H'
      try clear p1
      try clear q1
      try clear hx1
      try clear qi1
      try clear c2
      try clear c2b0
      try clear c2b1
      try clear p2
      try clear hx160_0
      try clear p160
      try clear q160
      obtain ⟨x3_1, x11_1, rfl, rfl, HA, HK1, HB⟩ := hrel
      cases gk with
      | zero => exact absurd HA.out (by simp [demand_least.l0])
      | succ k1 =>
        have H := HA.out
        clear HA
        simp only [demand_least.l0] at H
        by_cases c3 : x11_1 < (l0.length : Int)
        · rw [if_pos c3] at H
          have c3b0 : decide (x11_1 < (l0.length : Int)) = true := decide_eq_true c3
          clear c3
          by_cases c4 : 0 ≤ x11_1
          · rw [if_pos c4] at H
            have c4b0 : decide (0 ≤ x11_1) = true := decide_eq_true c4
            clear c4
            by_cases c5 : x11_1 < (l0.length : Int)
            · rw [if_pos c5] at H
              have c5b0 : decide (x11_1 < (l0.length : Int)) = true := decide_eq_true c5
              clear c5
              obtain ⟨ji6, hji6⟩ : ∃ j_ : Int, (mn x3_1 (rd l0 x11_1)) = j_ := ⟨_, rfl⟩
              replace H : (demand_least.l0 k1 ji6 l0 (l0.length : Int) (wrap64 (x11_1 + 1))) = some r := by first | (rw [hji6] at H; exact H) | (simp only [hji6] at H ⊢; exact H)
              have hji6_ : (if (rd l0 x11_1) < x3_1 then (rd l0 x11_1) else x3_1) = ji6 := hji6
              have H' := Aside0.mk H
              clear H
              have p161 : 0 ≤ (x11_1 : Int) := of_decide_eq_true (by first | (with_reducible assumption) | assumption)
              have q161 : x11_1 < (l0.length : Int) := of_decide_eq_true (by first | (with_reducible assumption) | assumption)
              obtain ⟨ad161, e161, hx161_0⟩ := Kd.at_int HR0.out x11_1 p161 q161
              obtain rfl : ad160 = ad161 := (by injection e161)
              replace hx161_0 := (HB.out.cell (World.block_lt_of_cell? w _ hx161_0)).trans hx161_0
              replace p161 := eq_true p161
              replace q161 := eq_true q161
              go_wp2
              go_roundg k1
              case measure => have := HK1.out; omega
              case rel => exact ⟨(ji6), (wrap64 (x11_1 + 1)), (by first | rfl | (simp; done) | (simp only [← hji6] <;> (first | rfl | simp)) | (simp [*]; done)), (by first | rfl | (simp; done) | (simp [*]; done)), H', ⟨by have := HK1.out; omega⟩, ⟨by repeat (first | (with_reducible first | exact HB.out | apply below_alloc | apply pw_below_drewN | apply below_drew1) | exact HB.out)⟩⟩
            · rw [if_neg c5] at H
              exact absurd H (by simp)
          · rw [if_neg c4] at H
            exact absurd H (by simp)
        · rw [if_neg c3] at H
          have c3b0 : decide (x11_1 < (l0.length : Int)) = false := decide_eq_false c3
          clear c3
          obtain rfl := Option.some.inj H
          go_wp2
          go_ret
          exact ⟨by first | rfl | (simp [errW_none, errW_some] <;> rfl) | (simp [*, errW_none, errW_some] <;> rfl), by repeat (first | (with_reducible first | exact HB.out | apply below_alloc | apply pw_below_drewN | apply below_drew1) | exact HB.out)⟩
  · rw [if_neg c2] at H
    exact absurd H (by simp)

end Go.Proofs.Ythiepacmdlgajaa.PQpaRuns
