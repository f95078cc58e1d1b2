-- Made by px.py (a program of this session, over the kit's printer) out of the translation. Not trusted: Lean checks it.
import Derived.Test.YtmgmpifbhjoijaaPParamHeavierx0
import Derived.Test.YtmgmpifbhjoijaaPParamHeavierx1
namespace Go.Proofs.Ytmgmpifbhjoijaa.PParamHeavier
open Go.RowKit Go.Proofs.YtmgmpifbhjoijaaW.PrintWords Go.Proofs.YtmgmpifbhjoijaaW.PrintLast Go.Proofs.YtmgmpifbhjoijaaW.PrintMore
attribute [local go_sem] max2_int min2_int max_two min_two max_three min_three max_four min_four   -- for this text's walks alone
set_option linter.unusedVariables false
set_option linter.unusedSimpArgs false

/-! ### param_Heavier: function 13 -/
def param_Heavier.j0 : Nat → Bool → Int → Int → Int → Int → Int → Int → Int → Int → Int → Int → Option (Bool)
  | 0, _, _, _, _, _, _, _, _, _, _, _ => none
  | k + 1, x13, x125000, x125001, x125002, x125003, x125004, x126000, x126001, x126002, x126003, x126004 => if x13 = true then (some false) else ((param_Heavier_1.f k x126000 x126001 x126002 x126003 x126004 x125000 x125001 x125002 x125003 x125004).bind fun t128 => (if t128 = true then (some true) else ((param_Heavier_1.f k x125000 x125001 x125002 x125003 x125004 x126000 x126001 x126002 x126003 x126004).bind fun t129 => (if t129 = true then (some false) else (some (decide (x125000 < x126000)))))))
def param_Heavier.f (k : Nat) (a0_0 : Int) (a0_1 : Int) (a0_2 : Int) (a0_3 : Int) (a0_4 : Int) (a1_0 : Int) (a1_1 : Int) (a1_2 : Int) (a1_3 : Int) (a1_4 : Int) : Option (Bool) := (param_Check.f a0_0 a0_1 a0_2 a0_3 a0_4).bind fun t126 => (if t126 = true then ((param_Check.f a1_0 a1_1 a1_2 a1_3 a1_4).bind fun t127 => (param_Heavier.j0 k (!t127) a0_0 a0_1 a0_2 a0_3 a0_4 a1_0 a1_1 a1_2 a1_3 a1_4)) else (param_Heavier.j0 k true a0_0 a0_1 a0_2 a0_3 a0_4 a1_0 a1_1 a1_2 a1_3 a1_4))
theorem param_Heavier.mono_l : ∀ k, (∀ y0 y1 y2 y3 y4 y5 y6 y7 y8 y9 y10, LeO (param_Heavier.j0 k y0 y1 y2 y3 y4 y5 y6 y7 y8 y9 y10) (param_Heavier.j0 (k + 1) y0 y1 y2 y3 y4 y5 y6 y7 y8 y9 y10))
  | 0 => fun _ _ _ _ _ _ _ _ _ _ _ r h => by simp [param_Heavier.j0] at h
  | k + 1 => by
    have ih0 := param_Heavier.mono_l k
    · intro y0 y1 y2 y3 y4 y5 y6 y7 y8 y9 y10
      unfold param_Heavier.j0
      repeat' first
      | (with_reducible exact ih0 _ _ _ _ _ _ _ _ _ _ _)
      | (with_reducible exact param_Heavier_1.mono _ _ _ _ _ _ _ _ _ _ _)
      | (with_reducible exact LeO.refl _)
      | (with_reducible exact LeO.none _)
      | (with_reducible refine LeO.ite ?_ ?_)
      | (with_reducible refine LeO.bind ?_ (fun _ => ?_))
      | exact ih0 _ _ _ _ _ _ _ _ _ _ _
      | exact param_Heavier_1.mono _ _ _ _ _ _ _ _ _ _ _
      | exact LeO.none _
      | refine LeO.ite ?_ ?_
      | refine LeO.bind ?_ (fun _ => ?_)
theorem param_Heavier.mono : ∀ a0 a1 a2 a3 a4 a5 a6 a7 a8 a9 k, LeO (param_Heavier.f k a0 a1 a2 a3 a4 a5 a6 a7 a8 a9) (param_Heavier.f (k + 1) a0 a1 a2 a3 a4 a5 a6 a7 a8 a9) := by
  intro a0 a1 a2 a3 a4 a5 a6 a7 a8 a9 k
  have ih0 := param_Heavier.mono_l k
  unfold param_Heavier.f
  repeat' first
      | (with_reducible exact ih0 _ _ _ _ _ _ _ _ _ _ _)
      | (with_reducible exact param_Heavier_1.mono _ _ _ _ _ _ _ _ _ _ _)
      | (with_reducible exact LeO.refl _)
      | (with_reducible exact LeO.none _)
      | (with_reducible refine LeO.ite ?_ ?_)
      | (with_reducible refine LeO.bind ?_ (fun _ => ?_))
      | exact ih0 _ _ _ _ _ _ _ _ _ _ _
      | exact param_Heavier_1.mono _ _ _ _ _ _ _ _ _ _ _
      | exact LeO.none _
      | refine LeO.ite ?_ ?_
      | refine LeO.bind ?_ (fun _ => ?_)
set_option maxHeartbeats 8000000 in
set_option maxRecDepth 100000 in
theorem param_Heavier.calls (k : Nat) (a0_0 : Int) (a0_1 : Int) (a0_2 : Int) (a0_3 : Int) (a0_4 : Int) (a1_0 : Int) (a1_1 : Int) (a1_2 : Int) (a1_3 : Int) (a1_4 : Int) (r : Bool) (w : World) (h : param_Heavier.f k a0_0 a0_1 a0_2 a0_3 a0_4 a1_0 a1_1 a1_2 a1_3 a1_4 = some r) :
    Calls Try.prog 13 #[.agg #[.int .i64 a0_0, .int .i64 a0_1, .int .i64 a0_2, .int .i64 a0_3, .int .i64 a0_4], .agg #[.int .i64 a1_0, .int .i64 a1_1, .int .i64 a1_2, .int .i64 a1_3, .int .i64 a1_4]] w fun e w' => e = .returned (.bool r) ∧ Below w.heap.size w w' := by
  have hu28 := Try.underlying28
  have HB := Aside0.mk (Below.refl w.heap.size w)
  have H : ((param_Check.f a0_0 a0_1 a0_2 a0_3 a0_4).bind fun t126 => (if t126 = true then ((param_Check.f a1_0 a1_1 a1_2 a1_3 a1_4).bind fun t127 => (param_Heavier.j0 k (!t127) a0_0 a0_1 a0_2 a0_3 a0_4 a1_0 a1_1 a1_2 a1_3 a1_4)) else (param_Heavier.j0 k true a0_0 a0_1 a0_2 a0_3 a0_4 a1_0 a1_1 a1_2 a1_3 a1_4))) = some r := h
  clear h
  have HC3 := Aside0.mk H
  clear H
  go_enter Try.func13, Try.ntmps13
  go_upto_region 1 with (first | ((with_reducible refine gate_dst (N := 2) rfl ?_); refine box_event ?hg (N := 2) ?hd (cs := #[.int .i64 a0_0, .int .i64 a0_1, .int .i64 a0_2, .int .i64 a0_3, .int .i64 a0_4]) (t := 28) ?hr ?_; (case hd => rfl); (case hg => rfl); (case hr => first | (go_simp; done) | (go_simp; rfl)); intro gb124 hg w4 hbox hb; have n0_ := Aside0.mk (below_step (by repeat (first | (with_reducible first | exact HB.out | apply below_alloc | apply pw_below_drewN | apply below_drew1) | exact HB.out)) hb); have n1_ := Aside0.mk (hbox); have n2_ := Aside0.mk ((by rw [hg]; exact (below_size (by repeat (first | (with_reducible first | exact HB.out | apply below_alloc | apply pw_below_drewN | apply below_drew1) | exact HB.out))) : w.heap.size ≤ gb124)); have n3_ := Aside0.mk ((by rw [hg]; exact (below_size (by repeat (first | (with_reducible first | exact HB.out | apply below_alloc | apply pw_below_drewN | apply below_drew1) | exact HB.out))) : w.heap.size ≤ gb124)); clear HB; have HB := n0_; have BK124 := n1_; have GW124 := n2_; have GE124 := n3_; clear n0_ n1_ n2_ n3_; clear hb hbox hg) | ((with_reducible refine gate_dst (N := 3) rfl ?_); refine box_event ?hg (N := 3) ?hd (cs := #[.int .i64 a1_0, .int .i64 a1_1, .int .i64 a1_2, .int .i64 a1_3, .int .i64 a1_4]) (t := 28) ?hr ?_; (case hd => rfl); (case hg => rfl); (case hr => first | (go_simp; done) | (go_simp; rfl)); intro gb125 hg w5 hbox hb; have n0_ := Aside0.mk (blk_below (g := gb124) (o := .cells #[.int .i64 a0_0, .int .i64 a0_1, .int .i64 a0_2, .int .i64 a0_3, .int .i64 a0_4] 28 (0, 0)) (by (with_reducible repeat (first | refine blk_drewN ?_ _ | refine blk_drew ?_ | refine blk_alloc ?_ _)); exact BK124.out) hb); have n1_ := Aside0.mk (below_step (by repeat (first | (with_reducible first | exact HB.out | apply below_alloc | apply pw_below_drewN | apply below_drew1 | refine below_set ?_ GE124.out) | exact HB.out)) hb); have n2_ := Aside0.mk (hbox); have n3_ := Aside0.mk ((by rw [hg]; exact (below_size (by repeat (first | (with_reducible first | exact HB.out | apply below_alloc | apply pw_below_drewN | apply below_drew1 | refine below_set ?_ GE124.out) | exact HB.out))) : w.heap.size ≤ gb125)); have n4_ := Aside0.mk ((by rw [hg]; exact (below_size (by repeat (first | (with_reducible first | exact HB.out | apply below_alloc | apply pw_below_drewN | apply below_drew1 | refine below_set ?_ GE124.out) | exact HB.out))) : w.heap.size ≤ gb125)); have n5_ := Aside0.mk ((by rw [hg]; exact Nat.ne_of_lt (blk_lt (g := gb124) (o := .cells #[.int .i64 a0_0, .int .i64 a0_1, .int .i64 a0_2, .int .i64 a0_3, .int .i64 a0_4] 28 (0, 0)) (by (with_reducible repeat (first | refine blk_drewN ?_ _ | refine blk_drew ?_ | refine blk_alloc ?_ _)); exact BK124.out)) : gb124 ≠ gb125)); have n6_ := Aside0.mk ((by rw [hg]; exact Nat.ne_of_gt (blk_lt (g := gb124) (o := .cells #[.int .i64 a0_0, .int .i64 a0_1, .int .i64 a0_2, .int .i64 a0_3, .int .i64 a0_4] 28 (0, 0)) (by (with_reducible repeat (first | refine blk_drewN ?_ _ | refine blk_drew ?_ | refine blk_alloc ?_ _)); exact BK124.out)) : gb125 ≠ gb124)); clear BK124; clear HB; have BK124 := n0_; have HB := n1_; have BK125 := n2_; have GW125 := n3_; have GE125 := n4_; have NB124_125 := n5_; have NB125_124 := n6_; clear n0_ n1_ n2_ n3_ n4_ n5_ n6_; clear hb hbox hg))
  (try simp only [Act.put, List.setIfInBounds_toArray, List.set_cons_zero, List.set_cons_succ])
  go_cut [13] (fun v13 wc => ∃ (kq : Nat) (x13_2 : Bool), v13 = .bool x13_2 ∧ Aside0 (param_Heavier.j0 kq x13_2 a0_0 a0_1 a0_2 a0_3 a0_4 a1_0 a1_1 a1_2 a1_3 a1_4 = some r) ∧ Aside0 (kq ≤ k) ∧ Aside0 (wc.heap[gb124]? = some (.cells #[.int .i64 a0_0, .int .i64 a0_1, .int .i64 a0_2, .int .i64 a0_3, .int .i64 a0_4] 28 (0, 0))) ∧ Aside0 (wc.heap[gb125]? = some (.cells #[.int .i64 a1_0, .int .i64 a1_1, .int .i64 a1_2, .int .i64 a1_3, .int .i64 a1_4] 28 (0, 0))) ∧ Aside0 (Below w.heap.size w wc))
  case first =>
    have H := HC3.out
    clear HC3
    replace H := Option.bind_eq_some_iff.mp H
    obtain ⟨t126, A60, H⟩ := H
    replace H : (if t126 = true then ((param_Check.f a1_0 a1_1 a1_2 a1_3 a1_4).bind fun t127 => (param_Heavier.j0 k (!t127) a0_0 a0_1 a0_2 a0_3 a0_4 a1_0 a1_1 a1_2 a1_3 a1_4)) else (param_Heavier.j0 k true a0_0 a0_1 a0_2 a0_3 a0_4 a1_0 a1_1 a1_2 a1_3 a1_4)) = some r := H
    have A6 := Aside0.mk A60
    clear A60
    by_cases c7 : t126 = true
    · subst c7
      have H1 : ((param_Check.f a1_0 a1_1 a1_2 a1_3 a1_4).bind fun t127 => (param_Heavier.j0 k (!t127) a0_0 a0_1 a0_2 a0_3 a0_4 a1_0 a1_1 a1_2 a1_3 a1_4)) = some r := by rw [if_pos rfl] at H; exact H
      clear H
      have H := H1
      clear H1
      replace H := Option.bind_eq_some_iff.mp H
      obtain ⟨t127, A80, H⟩ := H
      replace H : (param_Heavier.j0 k (!t127) a0_0 a0_1 a0_2 a0_3 a0_4 a1_0 a1_1 a1_2 a1_3 a1_4) = some r := H
      have A8 := Aside0.mk A80
      clear A80
      have H' := Aside0.mk H
      clear H
      have hnb9 := NB124_125.out
      have hnc9 := NB125_124.out
      have hcz10_0 : w5.cell? ⟨gb124, 0, none⟩ = some (.int .i64 a0_0) := (blk_cell BK124.out 0).trans rfl
      have hcz10_1 : w5.cell? ⟨gb124, 1, none⟩ = some (.int .i64 a0_1) := (blk_cell BK124.out 1).trans rfl
      have hcz10_2 : w5.cell? ⟨gb124, 2, none⟩ = some (.int .i64 a0_2) := (blk_cell BK124.out 2).trans rfl
      have hcz10_3 : w5.cell? ⟨gb124, 3, none⟩ = some (.int .i64 a0_3) := (blk_cell BK124.out 3).trans rfl
      have hcz10_4 : w5.cell? ⟨gb124, 4, none⟩ = some (.int .i64 a0_4) := (blk_cell BK124.out 4).trans rfl
      have hfz10_0 := blk_frozen BK124.out 0
      have hfz10_1 := blk_frozen BK124.out 1
      have hfz10_2 := blk_frozen BK124.out 2
      have hfz10_3 := blk_frozen BK124.out 3
      have hfz10_4 := blk_frozen BK124.out 4
      go_wp2_with (first | ((with_reducible refine gate_callee (f := 14) rfl ?_); refine goesL_ (some 7) rfl rfl Try.func14 (by kernel_rfl) rfl #[.agg #[.int .i64 a0_0, .int .i64 a0_1, .int .i64 a0_2, .int .i64 a0_3, .int .i64 a0_4]] rfl (by (try simp only [List.map_toArray, List.map_cons, List.map_nil]); first | done | rfl | (simp only [List.length_drop, List.length_take]; rfl)) ?_; (with_reducible refine (param_Check.calls a0_0 a0_1 a0_2 a0_3 a0_4 true _ A6.out).mono ?_); rintro e w11 ⟨rfl, hb⟩; refine ⟨_, rfl, ?_⟩; have n0_ := Aside0.mk (blk_below (g := gb124) (o := .cells #[.int .i64 a0_0, .int .i64 a0_1, .int .i64 a0_2, .int .i64 a0_3, .int .i64 a0_4] 28 (0, 0)) (by (with_reducible repeat (first | refine blk_drewN ?_ _ | refine blk_drew ?_ | refine blk_alloc ?_ _)); exact BK124.out) hb); have n1_ := Aside0.mk (blk_below (g := gb125) (o := .cells #[.int .i64 a1_0, .int .i64 a1_1, .int .i64 a1_2, .int .i64 a1_3, .int .i64 a1_4] 28 (0, 0)) (by (with_reducible repeat (first | refine blk_drewN ?_ _ | refine blk_drew ?_ | refine blk_alloc ?_ _)); exact BK125.out) hb); have n2_ := Aside0.mk (below_step (by repeat (first | (with_reducible first | exact HB.out | apply below_alloc | apply pw_below_drewN | apply below_drew1 | refine below_set ?_ GE124.out | refine below_set ?_ GE125.out) | exact HB.out)) hb); clear BK124; clear BK125; clear HB; have BK124 := n0_; have BK125 := n1_; have HB := n2_; clear n0_ n1_ n2_; (try clear hb); (try clear hb2); (try clear hk); (try clear hi); have hcz12_0 : w11.cell? ⟨gb125, 0, none⟩ = some (.int .i64 a1_0) := (blk_cell BK125.out 0).trans rfl; have hcz12_1 : w11.cell? ⟨gb125, 1, none⟩ = some (.int .i64 a1_1) := (blk_cell BK125.out 1).trans rfl; have hcz12_2 : w11.cell? ⟨gb125, 2, none⟩ = some (.int .i64 a1_2) := (blk_cell BK125.out 2).trans rfl; have hcz12_3 : w11.cell? ⟨gb125, 3, none⟩ = some (.int .i64 a1_3) := (blk_cell BK125.out 3).trans rfl; have hcz12_4 : w11.cell? ⟨gb125, 4, none⟩ = some (.int .i64 a1_4) := (blk_cell BK125.out 4).trans rfl; have hfz12_0 := blk_frozen BK125.out 0; have hfz12_1 := blk_frozen BK125.out 1; have hfz12_2 := blk_frozen BK125.out 2; have hfz12_3 := blk_frozen BK125.out 3; have hfz12_4 := blk_frozen BK125.out 4) | (go_at_call 14; (with_reducible refine (param_Check.calls a1_0 a1_1 a1_2 a1_3 a1_4 t127 _ A8.out).mono ?_); rintro e w13 ⟨rfl, hb⟩; have n0_ := Aside0.mk (blk_below (g := gb124) (o := .cells #[.int .i64 a0_0, .int .i64 a0_1, .int .i64 a0_2, .int .i64 a0_3, .int .i64 a0_4] 28 (0, 0)) (by (with_reducible repeat (first | refine blk_drewN ?_ _ | refine blk_drew ?_ | refine blk_alloc ?_ _)); exact BK124.out) hb); have n1_ := Aside0.mk (blk_below (g := gb125) (o := .cells #[.int .i64 a1_0, .int .i64 a1_1, .int .i64 a1_2, .int .i64 a1_3, .int .i64 a1_4] 28 (0, 0)) (by (with_reducible repeat (first | refine blk_drewN ?_ _ | refine blk_drew ?_ | refine blk_alloc ?_ _)); exact BK125.out) hb); have n2_ := Aside0.mk (below_step (by repeat (first | (with_reducible first | exact HB.out | apply below_alloc | apply pw_below_drewN | apply below_drew1 | refine below_set ?_ GE124.out | refine below_set ?_ GE125.out) | exact HB.out)) hb); clear BK124; clear BK125; clear HB; have BK124 := n0_; have BK125 := n1_; have HB := n2_; clear n0_ n1_ n2_; (try clear hb); (try clear hb2); (try clear hk); (try clear hi)))
      go_meet
      case rel => exact ⟨_, (!t127), (by first | rfl | (simp; done) | (simp [*]; done)), H', ⟨by first | omega | exact Nat.le_refl _⟩, ⟨by (with_reducible repeat (first | refine blk_drewN ?_ _ | refine blk_drew ?_ | refine blk_alloc ?_ _)); exact BK124.out⟩, ⟨by (with_reducible repeat (first | refine blk_drewN ?_ _ | refine blk_drew ?_ | refine blk_alloc ?_ _)); exact BK125.out⟩, ⟨by repeat (first | (with_reducible first | exact HB.out | apply below_alloc | apply pw_below_drewN | apply below_drew1 | refine below_set ?_ GE124.out | refine below_set ?_ GE125.out) | exact HB.out)⟩⟩
    · replace c7 := Bool.eq_false_iff.mpr c7
      subst c7
      have H1 : (param_Heavier.j0 k true a0_0 a0_1 a0_2 a0_3 a0_4 a1_0 a1_1 a1_2 a1_3 a1_4) = some r := by rw [if_neg (show ¬ (false = true) by decide)] at H; exact H
      clear H
      have H := H1
      clear H1
      have H' := Aside0.mk H
      clear H
      have hnb14 := NB124_125.out
      have hnc14 := NB125_124.out
      have hcz15_0 : w5.cell? ⟨gb124, 0, none⟩ = some (.int .i64 a0_0) := (blk_cell BK124.out 0).trans rfl
      have hcz15_1 : w5.cell? ⟨gb124, 1, none⟩ = some (.int .i64 a0_1) := (blk_cell BK124.out 1).trans rfl
      have hcz15_2 : w5.cell? ⟨gb124, 2, none⟩ = some (.int .i64 a0_2) := (blk_cell BK124.out 2).trans rfl
      have hcz15_3 : w5.cell? ⟨gb124, 3, none⟩ = some (.int .i64 a0_3) := (blk_cell BK124.out 3).trans rfl
      have hcz15_4 : w5.cell? ⟨gb124, 4, none⟩ = some (.int .i64 a0_4) := (blk_cell BK124.out 4).trans rfl
      have hfz15_0 := blk_frozen BK124.out 0
      have hfz15_1 := blk_frozen BK124.out 1
      have hfz15_2 := blk_frozen BK124.out 2
      have hfz15_3 := blk_frozen BK124.out 3
      have hfz15_4 := blk_frozen BK124.out 4
      go_wp2_with (first | ((with_reducible refine gate_callee (f := 14) rfl ?_); refine goesL_ (some 7) rfl rfl Try.func14 (by kernel_rfl) rfl #[.agg #[.int .i64 a0_0, .int .i64 a0_1, .int .i64 a0_2, .int .i64 a0_3, .int .i64 a0_4]] rfl (by (try simp only [List.map_toArray, List.map_cons, List.map_nil]); first | done | rfl | (simp only [List.length_drop, List.length_take]; rfl)) ?_; (with_reducible refine (param_Check.calls a0_0 a0_1 a0_2 a0_3 a0_4 false _ A6.out).mono ?_); rintro e w16 ⟨rfl, hb⟩; refine ⟨_, rfl, ?_⟩; have n0_ := Aside0.mk (blk_below (g := gb124) (o := .cells #[.int .i64 a0_0, .int .i64 a0_1, .int .i64 a0_2, .int .i64 a0_3, .int .i64 a0_4] 28 (0, 0)) (by (with_reducible repeat (first | refine blk_drewN ?_ _ | refine blk_drew ?_ | refine blk_alloc ?_ _)); exact BK124.out) hb); have n1_ := Aside0.mk (blk_below (g := gb125) (o := .cells #[.int .i64 a1_0, .int .i64 a1_1, .int .i64 a1_2, .int .i64 a1_3, .int .i64 a1_4] 28 (0, 0)) (by (with_reducible repeat (first | refine blk_drewN ?_ _ | refine blk_drew ?_ | refine blk_alloc ?_ _)); exact BK125.out) hb); have n2_ := Aside0.mk (below_step (by repeat (first | (with_reducible first | exact HB.out | apply below_alloc | apply pw_below_drewN | apply below_drew1 | refine below_set ?_ GE124.out | refine below_set ?_ GE125.out) | exact HB.out)) hb); clear BK124; clear BK125; clear HB; have BK124 := n0_; have BK125 := n1_; have HB := n2_; clear n0_ n1_ n2_; (try clear hb); (try clear hb2); (try clear hk); (try clear hi)))
      go_meet
      case rel => exact ⟨_, (true), (by first | rfl | (simp; done) | (simp [*]; done)), H', ⟨by first | omega | exact Nat.le_refl _⟩, ⟨by (with_reducible repeat (first | refine blk_drewN ?_ _ | refine blk_drew ?_ | refine blk_alloc ?_ _)); exact BK124.out⟩, ⟨by (with_reducible repeat (first | refine blk_drewN ?_ _ | refine blk_drew ?_ | refine blk_alloc ?_ _)); exact BK125.out⟩, ⟨by repeat (first | (with_reducible first | exact HB.out | apply below_alloc | apply pw_below_drewN | apply below_drew1 | refine below_set ?_ GE124.out | refine below_set ?_ GE125.out) | exact HB.out)⟩⟩
  case rest =>
    clear HC3
    try clear c1
    try clear p2
    try clear c7
    try clear c9
    try clear c13
    try clear c14
    try clear hcz10_0
    try clear hcz10_1
    try clear hcz10_2
    try clear hcz10_3
    try clear hcz10_4
    try clear hcz12_0
    try clear hcz12_1
    try clear hcz12_2
    try clear hcz12_3
    try clear hcz12_4
    try clear hcz15_0
    try clear hcz15_1
    try clear hcz15_2
    try clear hcz15_3
    try clear hcz15_4
    try clear hfz10_0
    try clear hfz10_1
    try clear hfz10_2
    try clear hfz10_3
    try clear hfz10_4
    try clear hfz12_0
    try clear hfz12_1
    try clear hfz12_2
    try clear hfz12_3
    try clear hfz12_4
    try clear hfz15_0
    try clear hfz15_1
    try clear hfz15_2
    try clear hfz15_3
    try clear hfz15_4
    obtain ⟨kq, x13_2, rfl, HA, HJ2, BK124, BK125, HB⟩ := hcut
    cases kq with
    | zero => exact absurd HA.out (by simp [param_Heavier.j0])
    | succ kj2 =>
      have H := HA.out
      clear HA
      simp only [param_Heavier.j0] at H
      by_cases c17 : x13_2 = true
      · subst c17
        have H1 : (some false) = some r := by rw [if_pos rfl] at H; exact H
        clear H
        have H := H1
        clear H1
        obtain rfl := Option.some.inj H
        go_wp2
        go_ret
        exact ⟨by first | rfl | (simp [errW_none, errW_some] <;> rfl) | (simp [*, errW_none, errW_some] <;> rfl), by repeat (first | (with_reducible first | exact HB.out | apply below_alloc | apply pw_below_drewN | apply below_drew1 | refine below_set ?_ GE124.out | refine below_set ?_ GE125.out) | exact HB.out)⟩
      · replace c17 := Bool.eq_false_iff.mpr c17
        subst c17
        have H1 : ((param_Heavier_1.f kj2 a1_0 a1_1 a1_2 a1_3 a1_4 a0_0 a0_1 a0_2 a0_3 a0_4).bind fun t128 => (if t128 = true then (some true) else ((param_Heavier_1.f kj2 a0_0 a0_1 a0_2 a0_3 a0_4 a1_0 a1_1 a1_2 a1_3 a1_4).bind fun t129 => (if t129 = true then (some false) else (some (decide (a0_0 < a1_0))))))) = some r := by rw [if_neg (show ¬ (false = true) by decide)] at H; exact H
        clear H
        have H := H1
        clear H1
        replace H := Option.bind_eq_some_iff.mp H
        obtain ⟨t128, A180, H⟩ := H
        replace H : (if t128 = true then (some true) else ((param_Heavier_1.f kj2 a0_0 a0_1 a0_2 a0_3 a0_4 a1_0 a1_1 a1_2 a1_3 a1_4).bind fun t129 => (if t129 = true then (some false) else (some (decide (a0_0 < a1_0)))))) = some r := H
        have A18 := Aside0.mk A180
        clear A180
        by_cases c19 : t128 = true
        · subst c19
          have H1 : (some true) = some r := by rw [if_pos rfl] at H; exact H
          clear H
          have H := H1
          clear H1
          obtain rfl := Option.some.inj H
          have hnb20 := NB125_124.out
          have hnc20 := NB124_125.out
          have hcz21_0 : wc.cell? ⟨gb125, 0, none⟩ = some (.int .i64 a1_0) := (blk_cell BK125.out 0).trans rfl
          have hcz21_1 : wc.cell? ⟨gb125, 1, none⟩ = some (.int .i64 a1_1) := (blk_cell BK125.out 1).trans rfl
          have hcz21_2 : wc.cell? ⟨gb125, 2, none⟩ = some (.int .i64 a1_2) := (blk_cell BK125.out 2).trans rfl
          have hcz21_3 : wc.cell? ⟨gb125, 3, none⟩ = some (.int .i64 a1_3) := (blk_cell BK125.out 3).trans rfl
          have hcz21_4 : wc.cell? ⟨gb125, 4, none⟩ = some (.int .i64 a1_4) := (blk_cell BK125.out 4).trans rfl
          have hfz21_0 := blk_frozen BK125.out 0
          have hfz21_1 := blk_frozen BK125.out 1
          have hfz21_2 := blk_frozen BK125.out 2
          have hfz21_3 := blk_frozen BK125.out 3
          have hfz21_4 := blk_frozen BK125.out 4
          have hcz22_0 : wc.cell? ⟨gb124, 0, none⟩ = some (.int .i64 a0_0) := (blk_cell BK124.out 0).trans rfl
          have hcz22_1 : wc.cell? ⟨gb124, 1, none⟩ = some (.int .i64 a0_1) := (blk_cell BK124.out 1).trans rfl
          have hcz22_2 : wc.cell? ⟨gb124, 2, none⟩ = some (.int .i64 a0_2) := (blk_cell BK124.out 2).trans rfl
          have hcz22_3 : wc.cell? ⟨gb124, 3, none⟩ = some (.int .i64 a0_3) := (blk_cell BK124.out 3).trans rfl
          have hcz22_4 : wc.cell? ⟨gb124, 4, none⟩ = some (.int .i64 a0_4) := (blk_cell BK124.out 4).trans rfl
          have hfz22_0 := blk_frozen BK124.out 0
          have hfz22_1 := blk_frozen BK124.out 1
          have hfz22_2 := blk_frozen BK124.out 2
          have hfz22_3 := blk_frozen BK124.out 3
          have hfz22_4 := blk_frozen BK124.out 4
          go_wp2_with (first | (go_at_call 33; (with_reducible refine (param_Heavier_1.calls kj2 a1_0 a1_1 a1_2 a1_3 a1_4 a0_0 a0_1 a0_2 a0_3 a0_4 true _ A18.out).mono ?_); rintro e w23 ⟨rfl, hb⟩; have n0_ := Aside0.mk (blk_below (g := gb124) (o := .cells #[.int .i64 a0_0, .int .i64 a0_1, .int .i64 a0_2, .int .i64 a0_3, .int .i64 a0_4] 28 (0, 0)) (by (with_reducible repeat (first | refine blk_drewN ?_ _ | refine blk_drew ?_ | refine blk_alloc ?_ _)); exact BK124.out) hb); have n1_ := Aside0.mk (blk_below (g := gb125) (o := .cells #[.int .i64 a1_0, .int .i64 a1_1, .int .i64 a1_2, .int .i64 a1_3, .int .i64 a1_4] 28 (0, 0)) (by (with_reducible repeat (first | refine blk_drewN ?_ _ | refine blk_drew ?_ | refine blk_alloc ?_ _)); exact BK125.out) hb); have n2_ := Aside0.mk (below_step (by repeat (first | (with_reducible first | exact HB.out | apply below_alloc | apply pw_below_drewN | apply below_drew1 | refine below_set ?_ GE124.out | refine below_set ?_ GE125.out) | exact HB.out)) hb); clear BK124; clear BK125; clear HB; have BK124 := n0_; have BK125 := n1_; have HB := n2_; clear n0_ n1_ n2_; (try clear hb); (try clear hb2); (try clear hk); (try clear hi)))
          go_ret
          exact ⟨by first | rfl | (simp [errW_none, errW_some] <;> rfl) | (simp [*, errW_none, errW_some] <;> rfl), by repeat (first | (with_reducible first | exact HB.out | apply below_alloc | apply pw_below_drewN | apply below_drew1 | refine below_set ?_ GE124.out | refine below_set ?_ GE125.out) | exact HB.out)⟩
        · replace c19 := Bool.eq_false_iff.mpr c19
          subst c19
          have H1 : ((param_Heavier_1.f kj2 a0_0 a0_1 a0_2 a0_3 a0_4 a1_0 a1_1 a1_2 a1_3 a1_4).bind fun t129 => (if t129 = true then (some false) else (some (decide (a0_0 < a1_0))))) = some r := by rw [if_neg (show ¬ (false = true) by decide)] at H; exact H
          clear H
          have H := H1
          clear H1
          replace H := Option.bind_eq_some_iff.mp H
          obtain ⟨t129, A240, H⟩ := H
          replace H : (if t129 = true then (some false) else (some (decide (a0_0 < a1_0)))) = some r := H
          have A24 := Aside0.mk A240
          clear A240
          by_cases c25 : t129 = true
          · subst c25
            have H1 : (some false) = some r := by rw [if_pos rfl] at H; exact H
            clear H
            have H := H1
            clear H1
            obtain rfl := Option.some.inj H
            have hnb26 := NB125_124.out
            have hnc26 := NB124_125.out
            have hcz27_0 : wc.cell? ⟨gb125, 0, none⟩ = some (.int .i64 a1_0) := (blk_cell BK125.out 0).trans rfl
            have hcz27_1 : wc.cell? ⟨gb125, 1, none⟩ = some (.int .i64 a1_1) := (blk_cell BK125.out 1).trans rfl
            have hcz27_2 : wc.cell? ⟨gb125, 2, none⟩ = some (.int .i64 a1_2) := (blk_cell BK125.out 2).trans rfl
            have hcz27_3 : wc.cell? ⟨gb125, 3, none⟩ = some (.int .i64 a1_3) := (blk_cell BK125.out 3).trans rfl
            have hcz27_4 : wc.cell? ⟨gb125, 4, none⟩ = some (.int .i64 a1_4) := (blk_cell BK125.out 4).trans rfl
            have hfz27_0 := blk_frozen BK125.out 0
            have hfz27_1 := blk_frozen BK125.out 1
            have hfz27_2 := blk_frozen BK125.out 2
            have hfz27_3 := blk_frozen BK125.out 3
            have hfz27_4 := blk_frozen BK125.out 4
            have hcz28_0 : wc.cell? ⟨gb124, 0, none⟩ = some (.int .i64 a0_0) := (blk_cell BK124.out 0).trans rfl
            have hcz28_1 : wc.cell? ⟨gb124, 1, none⟩ = some (.int .i64 a0_1) := (blk_cell BK124.out 1).trans rfl
            have hcz28_2 : wc.cell? ⟨gb124, 2, none⟩ = some (.int .i64 a0_2) := (blk_cell BK124.out 2).trans rfl
            have hcz28_3 : wc.cell? ⟨gb124, 3, none⟩ = some (.int .i64 a0_3) := (blk_cell BK124.out 3).trans rfl
            have hcz28_4 : wc.cell? ⟨gb124, 4, none⟩ = some (.int .i64 a0_4) := (blk_cell BK124.out 4).trans rfl
            have hfz28_0 := blk_frozen BK124.out 0
            have hfz28_1 := blk_frozen BK124.out 1
            have hfz28_2 := blk_frozen BK124.out 2
            have hfz28_3 := blk_frozen BK124.out 3
            have hfz28_4 := blk_frozen BK124.out 4
            go_wp2_with (first | (go_at_call 33; (with_reducible refine (param_Heavier_1.calls kj2 a1_0 a1_1 a1_2 a1_3 a1_4 a0_0 a0_1 a0_2 a0_3 a0_4 false _ A18.out).mono ?_); rintro e w29 ⟨rfl, hb⟩; have n0_ := Aside0.mk (blk_below (g := gb124) (o := .cells #[.int .i64 a0_0, .int .i64 a0_1, .int .i64 a0_2, .int .i64 a0_3, .int .i64 a0_4] 28 (0, 0)) (by (with_reducible repeat (first | refine blk_drewN ?_ _ | refine blk_drew ?_ | refine blk_alloc ?_ _)); exact BK124.out) hb); have n1_ := Aside0.mk (blk_below (g := gb125) (o := .cells #[.int .i64 a1_0, .int .i64 a1_1, .int .i64 a1_2, .int .i64 a1_3, .int .i64 a1_4] 28 (0, 0)) (by (with_reducible repeat (first | refine blk_drewN ?_ _ | refine blk_drew ?_ | refine blk_alloc ?_ _)); exact BK125.out) hb); have n2_ := Aside0.mk (below_step (by repeat (first | (with_reducible first | exact HB.out | apply below_alloc | apply pw_below_drewN | apply below_drew1 | refine below_set ?_ GE124.out | refine below_set ?_ GE125.out) | exact HB.out)) hb); clear BK124; clear BK125; clear HB; have BK124 := n0_; have BK125 := n1_; have HB := n2_; clear n0_ n1_ n2_; (try clear hb); (try clear hb2); (try clear hk); (try clear hi); have hcz30_0 : w29.cell? ⟨gb124, 0, none⟩ = some (.int .i64 a0_0) := (blk_cell BK124.out 0).trans rfl; have hcz30_1 : w29.cell? ⟨gb124, 1, none⟩ = some (.int .i64 a0_1) := (blk_cell BK124.out 1).trans rfl; have hcz30_2 : w29.cell? ⟨gb124, 2, none⟩ = some (.int .i64 a0_2) := (blk_cell BK124.out 2).trans rfl; have hcz30_3 : w29.cell? ⟨gb124, 3, none⟩ = some (.int .i64 a0_3) := (blk_cell BK124.out 3).trans rfl; have hcz30_4 : w29.cell? ⟨gb124, 4, none⟩ = some (.int .i64 a0_4) := (blk_cell BK124.out 4).trans rfl; have hfz30_0 := blk_frozen BK124.out 0; have hfz30_1 := blk_frozen BK124.out 1; have hfz30_2 := blk_frozen BK124.out 2; have hfz30_3 := blk_frozen BK124.out 3; have hfz30_4 := blk_frozen BK124.out 4; have hcz31_0 : w29.cell? ⟨gb125, 0, none⟩ = some (.int .i64 a1_0) := (blk_cell BK125.out 0).trans rfl; have hcz31_1 : w29.cell? ⟨gb125, 1, none⟩ = some (.int .i64 a1_1) := (blk_cell BK125.out 1).trans rfl; have hcz31_2 : w29.cell? ⟨gb125, 2, none⟩ = some (.int .i64 a1_2) := (blk_cell BK125.out 2).trans rfl; have hcz31_3 : w29.cell? ⟨gb125, 3, none⟩ = some (.int .i64 a1_3) := (blk_cell BK125.out 3).trans rfl; have hcz31_4 : w29.cell? ⟨gb125, 4, none⟩ = some (.int .i64 a1_4) := (blk_cell BK125.out 4).trans rfl; have hfz31_0 := blk_frozen BK125.out 0; have hfz31_1 := blk_frozen BK125.out 1; have hfz31_2 := blk_frozen BK125.out 2; have hfz31_3 := blk_frozen BK125.out 3; have hfz31_4 := blk_frozen BK125.out 4) | (go_at_call 33; (with_reducible refine (param_Heavier_1.calls kj2 a0_0 a0_1 a0_2 a0_3 a0_4 a1_0 a1_1 a1_2 a1_3 a1_4 true _ A24.out).mono ?_); rintro e w32 ⟨rfl, hb⟩; have n0_ := Aside0.mk (blk_below (g := gb124) (o := .cells #[.int .i64 a0_0, .int .i64 a0_1, .int .i64 a0_2, .int .i64 a0_3, .int .i64 a0_4] 28 (0, 0)) (by (with_reducible repeat (first | refine blk_drewN ?_ _ | refine blk_drew ?_ | refine blk_alloc ?_ _)); exact BK124.out) hb); have n1_ := Aside0.mk (blk_below (g := gb125) (o := .cells #[.int .i64 a1_0, .int .i64 a1_1, .int .i64 a1_2, .int .i64 a1_3, .int .i64 a1_4] 28 (0, 0)) (by (with_reducible repeat (first | refine blk_drewN ?_ _ | refine blk_drew ?_ | refine blk_alloc ?_ _)); exact BK125.out) hb); have n2_ := Aside0.mk (below_step (by repeat (first | (with_reducible first | exact HB.out | apply below_alloc | apply pw_below_drewN | apply below_drew1 | refine below_set ?_ GE124.out | refine below_set ?_ GE125.out) | exact HB.out)) hb); clear BK124; clear BK125; clear HB; have BK124 := n0_; have BK125 := n1_; have HB := n2_; clear n0_ n1_ n2_; (try clear hb); (try clear hb2); (try clear hk); (try clear hi)))
            go_ret
            exact ⟨by first | rfl | (simp [errW_none, errW_some] <;> rfl) | (simp [*, errW_none, errW_some] <;> rfl), by repeat (first | (with_reducible first | exact HB.out | apply below_alloc | apply pw_below_drewN | apply below_drew1 | refine below_set ?_ GE124.out | refine below_set ?_ GE125.out) | exact HB.out)⟩
          · replace c25 := Bool.eq_false_iff.mpr c25
            subst c25
            have H1 : (some (decide (a0_0 < a1_0))) = some r := by rw [if_neg (show ¬ (false = true) by decide)] at H; exact H
            clear H
            have H := H1
            clear H1
            obtain rfl := Option.some.inj H
            have hnb33 := NB125_124.out
            have hnc33 := NB124_125.out
            have hcz34_0 : wc.cell? ⟨gb125, 0, none⟩ = some (.int .i64 a1_0) := (blk_cell BK125.out 0).trans rfl
            have hcz34_1 : wc.cell? ⟨gb125, 1, none⟩ = some (.int .i64 a1_1) := (blk_cell BK125.out 1).trans rfl
            have hcz34_2 : wc.cell? ⟨gb125, 2, none⟩ = some (.int .i64 a1_2) := (blk_cell BK125.out 2).trans rfl
            have hcz34_3 : wc.cell? ⟨gb125, 3, none⟩ = some (.int .i64 a1_3) := (blk_cell BK125.out 3).trans rfl
            have hcz34_4 : wc.cell? ⟨gb125, 4, none⟩ = some (.int .i64 a1_4) := (blk_cell BK125.out 4).trans rfl
            have hfz34_0 := blk_frozen BK125.out 0
            have hfz34_1 := blk_frozen BK125.out 1
            have hfz34_2 := blk_frozen BK125.out 2
            have hfz34_3 := blk_frozen BK125.out 3
            have hfz34_4 := blk_frozen BK125.out 4
            have hcz35_0 : wc.cell? ⟨gb124, 0, none⟩ = some (.int .i64 a0_0) := (blk_cell BK124.out 0).trans rfl
            have hcz35_1 : wc.cell? ⟨gb124, 1, none⟩ = some (.int .i64 a0_1) := (blk_cell BK124.out 1).trans rfl
            have hcz35_2 : wc.cell? ⟨gb124, 2, none⟩ = some (.int .i64 a0_2) := (blk_cell BK124.out 2).trans rfl
            have hcz35_3 : wc.cell? ⟨gb124, 3, none⟩ = some (.int .i64 a0_3) := (blk_cell BK124.out 3).trans rfl
            have hcz35_4 : wc.cell? ⟨gb124, 4, none⟩ = some (.int .i64 a0_4) := (blk_cell BK124.out 4).trans rfl
            have hfz35_0 := blk_frozen BK124.out 0
            have hfz35_1 := blk_frozen BK124.out 1
            have hfz35_2 := blk_frozen BK124.out 2
            have hfz35_3 := blk_frozen BK124.out 3
            have hfz35_4 := blk_frozen BK124.out 4
            go_wp2_with (first | (go_at_call 33; (with_reducible refine (param_Heavier_1.calls kj2 a1_0 a1_1 a1_2 a1_3 a1_4 a0_0 a0_1 a0_2 a0_3 a0_4 false _ A18.out).mono ?_); rintro e w36 ⟨rfl, hb⟩; have n0_ := Aside0.mk (blk_below (g := gb124) (o := .cells #[.int .i64 a0_0, .int .i64 a0_1, .int .i64 a0_2, .int .i64 a0_3, .int .i64 a0_4] 28 (0, 0)) (by (with_reducible repeat (first | refine blk_drewN ?_ _ | refine blk_drew ?_ | refine blk_alloc ?_ _)); exact BK124.out) hb); have n1_ := Aside0.mk (blk_below (g := gb125) (o := .cells #[.int .i64 a1_0, .int .i64 a1_1, .int .i64 a1_2, .int .i64 a1_3, .int .i64 a1_4] 28 (0, 0)) (by (with_reducible repeat (first | refine blk_drewN ?_ _ | refine blk_drew ?_ | refine blk_alloc ?_ _)); exact BK125.out) hb); have n2_ := Aside0.mk (below_step (by repeat (first | (with_reducible first | exact HB.out | apply below_alloc | apply pw_below_drewN | apply below_drew1 | refine below_set ?_ GE124.out | refine below_set ?_ GE125.out) | exact HB.out)) hb); clear BK124; clear BK125; clear HB; have BK124 := n0_; have BK125 := n1_; have HB := n2_; clear n0_ n1_ n2_; (try clear hb); (try clear hb2); (try clear hk); (try clear hi); have hcz37_0 : w36.cell? ⟨gb124, 0, none⟩ = some (.int .i64 a0_0) := (blk_cell BK124.out 0).trans rfl; have hcz37_1 : w36.cell? ⟨gb124, 1, none⟩ = some (.int .i64 a0_1) := (blk_cell BK124.out 1).trans rfl; have hcz37_2 : w36.cell? ⟨gb124, 2, none⟩ = some (.int .i64 a0_2) := (blk_cell BK124.out 2).trans rfl; have hcz37_3 : w36.cell? ⟨gb124, 3, none⟩ = some (.int .i64 a0_3) := (blk_cell BK124.out 3).trans rfl; have hcz37_4 : w36.cell? ⟨gb124, 4, none⟩ = some (.int .i64 a0_4) := (blk_cell BK124.out 4).trans rfl; have hfz37_0 := blk_frozen BK124.out 0; have hfz37_1 := blk_frozen BK124.out 1; have hfz37_2 := blk_frozen BK124.out 2; have hfz37_3 := blk_frozen BK124.out 3; have hfz37_4 := blk_frozen BK124.out 4; have hcz38_0 : w36.cell? ⟨gb125, 0, none⟩ = some (.int .i64 a1_0) := (blk_cell BK125.out 0).trans rfl; have hcz38_1 : w36.cell? ⟨gb125, 1, none⟩ = some (.int .i64 a1_1) := (blk_cell BK125.out 1).trans rfl; have hcz38_2 : w36.cell? ⟨gb125, 2, none⟩ = some (.int .i64 a1_2) := (blk_cell BK125.out 2).trans rfl; have hcz38_3 : w36.cell? ⟨gb125, 3, none⟩ = some (.int .i64 a1_3) := (blk_cell BK125.out 3).trans rfl; have hcz38_4 : w36.cell? ⟨gb125, 4, none⟩ = some (.int .i64 a1_4) := (blk_cell BK125.out 4).trans rfl; have hfz38_0 := blk_frozen BK125.out 0; have hfz38_1 := blk_frozen BK125.out 1; have hfz38_2 := blk_frozen BK125.out 2; have hfz38_3 := blk_frozen BK125.out 3; have hfz38_4 := blk_frozen BK125.out 4) | (go_at_call 33; (with_reducible refine (param_Heavier_1.calls kj2 a0_0 a0_1 a0_2 a0_3 a0_4 a1_0 a1_1 a1_2 a1_3 a1_4 false _ A24.out).mono ?_); rintro e w39 ⟨rfl, hb⟩; have n0_ := Aside0.mk (blk_below (g := gb124) (o := .cells #[.int .i64 a0_0, .int .i64 a0_1, .int .i64 a0_2, .int .i64 a0_3, .int .i64 a0_4] 28 (0, 0)) (by (with_reducible repeat (first | refine blk_drewN ?_ _ | refine blk_drew ?_ | refine blk_alloc ?_ _)); exact BK124.out) hb); have n1_ := Aside0.mk (blk_below (g := gb125) (o := .cells #[.int .i64 a1_0, .int .i64 a1_1, .int .i64 a1_2, .int .i64 a1_3, .int .i64 a1_4] 28 (0, 0)) (by (with_reducible repeat (first | refine blk_drewN ?_ _ | refine blk_drew ?_ | refine blk_alloc ?_ _)); exact BK125.out) hb); have n2_ := Aside0.mk (below_step (by repeat (first | (with_reducible first | exact HB.out | apply below_alloc | apply pw_below_drewN | apply below_drew1 | refine below_set ?_ GE124.out | refine below_set ?_ GE125.out) | exact HB.out)) hb); clear BK124; clear BK125; clear HB; have BK124 := n0_; have BK125 := n1_; have HB := n2_; clear n0_ n1_ n2_; (try clear hb); (try clear hb2); (try clear hk); (try clear hi); have hcz40_0 : w39.cell? ⟨gb124, 0, none⟩ = some (.int .i64 a0_0) := (blk_cell BK124.out 0).trans rfl; have hcz40_1 : w39.cell? ⟨gb124, 1, none⟩ = some (.int .i64 a0_1) := (blk_cell BK124.out 1).trans rfl; have hcz40_2 : w39.cell? ⟨gb124, 2, none⟩ = some (.int .i64 a0_2) := (blk_cell BK124.out 2).trans rfl; have hcz40_3 : w39.cell? ⟨gb124, 3, none⟩ = some (.int .i64 a0_3) := (blk_cell BK124.out 3).trans rfl; have hcz40_4 : w39.cell? ⟨gb124, 4, none⟩ = some (.int .i64 a0_4) := (blk_cell BK124.out 4).trans rfl; have hfz40_0 := blk_frozen BK124.out 0; have hfz40_1 := blk_frozen BK124.out 1; have hfz40_2 := blk_frozen BK124.out 2; have hfz40_3 := blk_frozen BK124.out 3; have hfz40_4 := blk_frozen BK124.out 4; have hcz41_0 : w39.cell? ⟨gb125, 0, none⟩ = some (.int .i64 a1_0) := (blk_cell BK125.out 0).trans rfl; have hcz41_1 : w39.cell? ⟨gb125, 1, none⟩ = some (.int .i64 a1_1) := (blk_cell BK125.out 1).trans rfl; have hcz41_2 : w39.cell? ⟨gb125, 2, none⟩ = some (.int .i64 a1_2) := (blk_cell BK125.out 2).trans rfl; have hcz41_3 : w39.cell? ⟨gb125, 3, none⟩ = some (.int .i64 a1_3) := (blk_cell BK125.out 3).trans rfl; have hcz41_4 : w39.cell? ⟨gb125, 4, none⟩ = some (.int .i64 a1_4) := (blk_cell BK125.out 4).trans rfl; have hfz41_0 := blk_frozen BK125.out 0; have hfz41_1 := blk_frozen BK125.out 1; have hfz41_2 := blk_frozen BK125.out 2; have hfz41_3 := blk_frozen BK125.out 3; have hfz41_4 := blk_frozen BK125.out 4))
            go_ret
            exact ⟨by first | rfl | (simp [errW_none, errW_some] <;> rfl) | (simp [*, errW_none, errW_some] <;> rfl), by repeat (first | (with_reducible first | exact HB.out | apply below_alloc | apply pw_below_drewN | apply below_drew1 | refine below_set ?_ GE124.out | refine below_set ?_ GE125.out) | exact HB.out)⟩

/-! ### param_Gcd: function 75 -/
def param_Gcd.l0 : Nat → Int → Int → Option (Int)
  | 0, _, _ => none
  | k + 1, x0, x1 => if x1 = 0 then (some (mx x0 (wrap64 (-x0)))) else (param_Gcd.l0 k x1 (Int.tmod x0 x1))
def param_Gcd.f (k : Nat) (a0 : Int) (a1 : Int) : Option (Int) := param_Gcd.l0 k a0 a1
theorem param_Gcd.mono_l : ∀ k, (∀ y0 y1, LeO (param_Gcd.l0 k y0 y1) (param_Gcd.l0 (k + 1) y0 y1))
  | 0 => fun _ _ r h => by simp [param_Gcd.l0] at h
  | k + 1 => by
    have ih0 := param_Gcd.mono_l k
    · intro y0 y1
      unfold param_Gcd.l0
      repeat' first
      | (with_reducible exact ih0 _ _)
      | (with_reducible exact LeO.refl _)
      | (with_reducible exact LeO.none _)
      | (with_reducible refine LeO.ite ?_ ?_)
      | (with_reducible refine LeO.bind ?_ (fun _ => ?_))
      | exact ih0 _ _
      | exact LeO.none _
      | refine LeO.ite ?_ ?_
      | refine LeO.bind ?_ (fun _ => ?_)
theorem param_Gcd.mono : ∀ a0 a1 k, LeO (param_Gcd.f k a0 a1) (param_Gcd.f (k + 1) a0 a1) := by
  intro a0 a1 k
  have ih0 := param_Gcd.mono_l k
  unfold param_Gcd.f
  repeat' first
      | (with_reducible exact ih0 _ _)
      | (with_reducible exact LeO.refl _)
      | (with_reducible exact LeO.none _)
      | (with_reducible refine LeO.ite ?_ ?_)
      | (with_reducible refine LeO.bind ?_ (fun _ => ?_))
      | exact ih0 _ _
      | exact LeO.none _
      | refine LeO.ite ?_ ?_
      | refine LeO.bind ?_ (fun _ => ?_)
set_option maxHeartbeats 8000000 in
set_option maxRecDepth 100000 in
theorem param_Gcd.calls (k : Nat) (a0 : Int) (a1 : Int) (r : Int) (w : World) (h : param_Gcd.f k a0 a1 = some r) :
    Calls Try.prog 75 #[.int .i64 a0, .int .i64 a1] w fun e w' => e = .returned (.int .i64 r) ∧ Below w.heap.size w w' := by
  have HB := Aside0.mk (Below.refl w.heap.size w)
  have H : (param_Gcd.l0 k a0 a1) = some r := h
  clear h
  have H' := Aside0.mk H
  clear H
  go_enter Try.func75, Try.ntmps75
  go_wp2
  repeat (go_quiet (fail); try go_wp2)
  go_loopg [0, 1] k (fun kq v0 v1 w' => ∃ (x0_1 : Int) (x1_1 : Int), v0 = .int .i64 x0_1 ∧ v1 = .int .i64 x1_1 ∧ Aside0 (param_Gcd.l0 kq x0_1 x1_1 = some r) ∧ Aside0 (kq ≤ k) ∧ Aside0 (Below w.heap.size w w'))
  case atStart => exact ⟨(a0), (a1), (by first | rfl | (simp; done) | (simp [*]; done)), (by first | rfl | (simp; done) | (simp [*]; done)), H', ⟨Nat.le_refl _⟩, ⟨by repeat (first | (with_reducible first | exact HB.out | apply below_alloc | apply pw_below_drewN | apply below_drew1) | exact HB.out)⟩⟩
  case round =>
    clear H'
    try clear p2
    obtain ⟨x0_1, x1_1, rfl, rfl, HA, HK1, HB⟩ := hrel
    cases gk with
    | zero => exact absurd HA.out (by simp [param_Gcd.l0])
    | succ k1 =>
      have H := HA.out
      clear HA
      simp only [param_Gcd.l0] at H
      by_cases c3 : x1_1 = 0
      · rw [if_pos c3] at H
        have c3b0 : (x1_1 == 0) = true := beq_iff_eq.mpr c3
        have c3b1 : (x1_1 != 0) = false := bne_eq_false_iff_eq.mpr c3
        clear c3
        obtain ⟨ji4, hji4⟩ : ∃ j_ : Int, (mx x0_1 (wrap64 (-x0_1))) = j_ := ⟨_, rfl⟩
        replace H : (some ji4) = some r := by first | (rw [hji4] at H; exact H) | (simp only [hji4] at H ⊢; exact H)
        have hji4_ : (if x0_1 < (wrap64 (-x0_1)) then (wrap64 (-x0_1)) else x0_1) = ji4 := hji4
        obtain rfl := Option.some.inj H
        go_wp2
        repeat (go_quiet (fail); try go_wp2)
        go_ret
        exact ⟨by first | rfl | (simp [errW_none, errW_some] <;> rfl) | (simp only [← hji4]; first | rfl | (simp [errW_none, errW_some] <;> rfl)) | (simp [*, errW_none, errW_some] <;> rfl), by repeat (first | (with_reducible first | exact HB.out | apply below_alloc | apply pw_below_drewN | apply below_drew1) | exact HB.out)⟩
      · rw [if_neg c3] at H
        have c3b0 : (x1_1 == 0) = false := beq_eq_false_iff_ne.mpr c3
        have c3b1 : (x1_1 != 0) = true := bne_iff_ne.mpr c3
        have H' := Aside0.mk H
        clear H
        go_wp2
        repeat (go_quiet (fail); try go_wp2)
        go_roundg k1
        case measure => have := HK1.out; omega
        case rel => exact ⟨(x1_1), (Int.tmod x0_1 x1_1), (by first | rfl | (simp; done) | (simp [*]; done)), (by first | rfl | (simp; done) | (simp [*]; done)), H', ⟨by have := HK1.out; omega⟩, ⟨by repeat (first | (with_reducible first | exact HB.out | apply below_alloc | apply pw_below_drewN | apply below_drew1) | exact HB.out)⟩⟩

/-! ### param_Row_1: function 77 -/
def param_Row_1.f (a0_0 : Int) (a0_1 : Int) (a0_2 : Int) (a0_3 : Int) (a0_4 : Int) : Option (Bool) := (param_Check.f a0_0 a0_1 a0_2 a0_3 a0_4).bind fun t131 => (some (!t131))
set_option maxHeartbeats 8000000 in
set_option maxRecDepth 100000 in
theorem param_Row_1.calls (a0_0 : Int) (a0_1 : Int) (a0_2 : Int) (a0_3 : Int) (a0_4 : Int) (r : Bool) (w : World) (h : param_Row_1.f a0_0 a0_1 a0_2 a0_3 a0_4 = some r) :
    Calls Try.prog 77 #[.agg #[.int .i64 a0_0, .int .i64 a0_1, .int .i64 a0_2, .int .i64 a0_3, .int .i64 a0_4]] w fun e w' => e = .returned (.bool r) ∧ Below w.heap.size w w' := by
  have hu28 := Try.underlying28
  have HB := Aside0.mk (Below.refl w.heap.size w)
  have H : ((param_Check.f a0_0 a0_1 a0_2 a0_3 a0_4).bind fun t131 => (some (!t131))) = some r := h
  clear h
  replace H := Option.bind_eq_some_iff.mp H
  obtain ⟨t131, A20, H⟩ := H
  replace H : (some (!t131)) = some r := H
  have A2 := Aside0.mk A20
  clear A20
  obtain rfl := Option.some.inj H
  go_enter Try.func77, Try.ntmps77
  go_wp2_with (first | ((with_reducible refine gate_dst (N := 1) rfl ?_); refine box_event ?hg (N := 1) ?hd (cs := #[.int .i64 a0_0, .int .i64 a0_1, .int .i64 a0_2, .int .i64 a0_3, .int .i64 a0_4]) (t := 28) ?hr ?_; (case hd => rfl); (case hg => rfl); (case hr => first | (go_simp; done) | (go_simp; rfl)); intro gb130 hg w3 hbox hb; have n0_ := Aside0.mk (below_step (by repeat (first | (with_reducible first | exact HB.out | apply below_alloc | apply pw_below_drewN | apply below_drew1) | exact HB.out)) hb); have n1_ := Aside0.mk (hbox); have n2_ := Aside0.mk ((by rw [hg]; exact (below_size (by repeat (first | (with_reducible first | exact HB.out | apply below_alloc | apply pw_below_drewN | apply below_drew1) | exact HB.out))) : w.heap.size ≤ gb130)); have n3_ := Aside0.mk ((by rw [hg]; exact (below_size (by repeat (first | (with_reducible first | exact HB.out | apply below_alloc | apply pw_below_drewN | apply below_drew1) | exact HB.out))) : w.heap.size ≤ gb130)); clear HB; have HB := n0_; have BK130 := n1_; have GW130 := n2_; have GE130 := n3_; clear n0_ n1_ n2_ n3_; clear hb hbox hg; have hcz4_0 : w3.cell? ⟨gb130, 0, none⟩ = some (.int .i64 a0_0) := (blk_cell BK130.out 0).trans rfl; have hcz4_1 : w3.cell? ⟨gb130, 1, none⟩ = some (.int .i64 a0_1) := (blk_cell BK130.out 1).trans rfl; have hcz4_2 : w3.cell? ⟨gb130, 2, none⟩ = some (.int .i64 a0_2) := (blk_cell BK130.out 2).trans rfl; have hcz4_3 : w3.cell? ⟨gb130, 3, none⟩ = some (.int .i64 a0_3) := (blk_cell BK130.out 3).trans rfl; have hcz4_4 : w3.cell? ⟨gb130, 4, none⟩ = some (.int .i64 a0_4) := (blk_cell BK130.out 4).trans rfl; have hfz4_0 := blk_frozen BK130.out 0; have hfz4_1 := blk_frozen BK130.out 1; have hfz4_2 := blk_frozen BK130.out 2; have hfz4_3 := blk_frozen BK130.out 3; have hfz4_4 := blk_frozen BK130.out 4) | ((with_reducible refine gate_callee (f := 14) rfl ?_); refine goesL_ (some 4) rfl rfl Try.func14 (by kernel_rfl) rfl #[.agg #[.int .i64 a0_0, .int .i64 a0_1, .int .i64 a0_2, .int .i64 a0_3, .int .i64 a0_4]] rfl (by (try simp only [List.map_toArray, List.map_cons, List.map_nil]); first | done | rfl | (simp only [List.length_drop, List.length_take]; rfl)) ?_; (with_reducible refine (param_Check.calls a0_0 a0_1 a0_2 a0_3 a0_4 t131 _ A2.out).mono ?_); rintro e w5 ⟨rfl, hb⟩; refine ⟨_, rfl, ?_⟩; have n0_ := Aside0.mk (blk_below (g := gb130) (o := .cells #[.int .i64 a0_0, .int .i64 a0_1, .int .i64 a0_2, .int .i64 a0_3, .int .i64 a0_4] 28 (0, 0)) (by (with_reducible repeat (first | refine blk_drewN ?_ _ | refine blk_drew ?_ | refine blk_alloc ?_ _)); exact BK130.out) hb); have n1_ := Aside0.mk (below_step (by repeat (first | (with_reducible first | exact HB.out | apply below_alloc | apply pw_below_drewN | apply below_drew1 | refine below_set ?_ GE130.out) | exact HB.out)) hb); clear BK130; clear HB; have BK130 := n0_; have HB := n1_; clear n0_ n1_; (try clear hb); (try clear hb2); (try clear hk); (try clear hi)))
  go_ret
  exact ⟨by first | rfl | (simp [errW_none, errW_some] <;> rfl) | (simp [*, errW_none, errW_some] <;> rfl), by repeat (first | (with_reducible first | exact HB.out | apply below_alloc | apply pw_below_drewN | apply below_drew1 | refine below_set ?_ GE130.out) | exact HB.out)⟩

/-! ### param_Row: function 40 (by hand) -/
def taskB (t : S28) : Bool := decide (0 ≤ t.f0) && (decide (t.f0 ≤ 1023) && (decide (0 < t.f1) && (decide (t.f1 ≤ t.f2) && (decide (t.f2 ≤ t.f3) && (decide (t.f3 ≤ 2147483648) && (decide (0 < t.f4) && decide (t.f4 ≤ 15)))))))
theorem check_eq (t : S28) : param_Check.f t.f0 t.f1 t.f2 t.f3 t.f4 = some (taskB t) := by
  unfold param_Check.f taskB
  by_cases h0 : 0 ≤ t.f0
  · rw [if_pos h0]
    by_cases h1 : t.f0 ≤ 1023
    · rw [if_pos h1]
      by_cases h2 : 0 < t.f1
      · rw [if_pos h2]
        by_cases h3 : t.f1 ≤ t.f2
        · rw [if_pos h3]
          by_cases h4 : t.f2 ≤ t.f3
          · rw [if_pos h4]
            by_cases h5 : t.f3 ≤ 2147483648
            · rw [if_pos h5]
              by_cases h6 : 0 < t.f4
              · rw [if_pos h6]; simp [h0, h1, h2, h3, h4, h5, h6]
              · rw [if_neg h6]; simp [h6]
            · rw [if_neg h5]; simp [h5]
          · rw [if_neg h4]; simp [h4]
        · rw [if_neg h3]; simp [h3]
      · rw [if_neg h2]; simp [h2]
    · rw [if_neg h1]; simp [h1]
  · rw [if_neg h0]; simp [h0]
/-- The first place, from i on, of a task that may not be. -/
def badAt (l0 : List S28) : Int := match l0.findIdx? (fun t => !taskB t) with | some i => (i : Int) | none => -1
def param_Row.f (l0 : List S28) : Option Bool := some (decide (l0.length ≤ 16) && l0.all taskB)
theorem badAt_some {l0 : List S28} {k : Nat} (hk : k < l0.length) (hb : ∀ j, j < k → taskB (rd_T28 l0 j) = true) (h : taskB (rd_T28 l0 k) = false) : badAt l0 = k := by
  have e : l0.findIdx? (fun t => !taskB t) = some k := by
    rw [List.findIdx?_eq_some_iff_getElem]
    refine ⟨hk, by simpa [rd_T28, hk] using h, fun j hj => ?_⟩
    have := hb j hj
    simpa [rd_T28, Nat.lt_trans hj hk] using this
  unfold badAt; rw [e]
theorem badAt_none {l0 : List S28} (hb : ∀ j, j < l0.length → taskB (rd_T28 l0 j) = true) : badAt l0 = -1 := by
  have e : l0.findIdx? (fun t => !taskB t) = none := by
    rw [List.findIdx?_eq_none_iff]
    intro x hx
    obtain ⟨j, hj, rfl⟩ := List.getElem_of_mem hx
    have := hb j hj
    simpa [rd_T28, hj] using this
  unfold badAt; rw [e]
theorem badAt_all (l0 : List S28) : decide (0 ≤ badAt l0) = !(l0.all taskB) := by
  unfold badAt
  cases h : l0.findIdx? (fun t => !taskB t) with
  | none =>
    rw [List.findIdx?_eq_none_iff] at h
    have : l0.all taskB = true := by rw [List.all_eq_true]; intro x hx; simpa using h x hx
    simp [this]
  | some i =>
    rw [List.findIdx?_eq_some_iff_getElem] at h
    obtain ⟨hi, h1, _⟩ := h
    have : l0.all taskB = false := by
      rw [Bool.eq_false_iff]; intro hall; rw [List.all_eq_true] at hall
      have := hall _ (List.getElem_mem hi); simp [this] at h1
    simp [this]
set_option maxHeartbeats 4000000 in
set_option maxRecDepth 100000 in
theorem taskIndex.calls (A0 : Option Addr) (c0 : Nat) (l0 : List S28) (w : World) (hr0 : Kd.C k28 w A0 l0.length l0) (hc0 : l0.length ≤ c0) :
    Calls Try.prog 98 #[.slice A0 l0.length c0, .func (.func 77) #[] #[]] w fun e w' => e = .returned (.int .i64 (badAt l0)) ∧ Below w.heap.size w w' := by
  have hu := Try.underlying28
  have hmax : l0.length ≤ 9223372036854775807 := Kd.C_max hr0
  have HR0 := Aside0.mk hr0
  have HC0 := Aside0.mk hc0
  clear hr0 hc0
  go_enter Try.func98, Try.ntmps98
  go_wp2
  go_loopw [5, 8] (fun _ v8 wr => ∃ k : Nat, k ≤ l0.length ∧ v8 = .int .i64 k ∧ Aside0 (∀ j, j < k → taskB (rd_T28 l0 j) = true) ∧ Aside0 (Below w.heap.size w wr)) (fun _ v8 _ => l0.length - (intOf v8).toNat)
  case atStart => exact ⟨0, Nat.zero_le _, rfl, ⟨fun j hj => absurd hj (Nat.not_lt_zero _)⟩, ⟨Below.refl _ _⟩⟩
  case round =>
    obtain ⟨k, hk, rfl, HP, HB⟩ := hrel
    by_cases hlt : k < l0.length
    · have p0 : (0 : Int) ≤ (k : Int) := by omega
      have q0 : (k : Int) < (l0.length : Int) := by omega
      obtain ⟨ad, e0, hx0, hx1, hx2, hx3, hx4⟩ := at_T28 HR0.out k p0 q0
      cases e0
      replace hx0 := (HB.out.cell (World.block_lt_of_cell? w _ hx0)).trans hx0
      replace hx1 := (HB.out.cell (World.block_lt_of_cell? w _ hx1)).trans hx1
      replace hx2 := (HB.out.cell (World.block_lt_of_cell? w _ hx2)).trans hx2
      replace hx3 := (HB.out.cell (World.block_lt_of_cell? w _ hx3)).trans hx3
      replace hx4 := (HB.out.cell (World.block_lt_of_cell? w _ hx4)).trans hx4
      simp only [Int.toNat_natCast] at hx0 hx1 hx2 hx3 hx4
      cases hb : taskB (rd_T28 l0 k) with
      | true =>
        have HC := Lib.hid (param_Row_1.calls (rd_T28 l0 k).f0 (rd_T28 l0 k).f1 (rd_T28 l0 k).f2 (rd_T28 l0 k).f3 (rd_T28 l0 k).f4 false wr (by unfold param_Row_1.f; rw [check_eq, hb]; rfl))
        have HT := Lib.hid hb
        clear hb
        go_wp2_with (go_at_call 77; refine HC.out.mono ?_; rintro e w1 ⟨rfl, hb1⟩; have HB1 := Aside0.mk (below_step HB.out hb1); clear hb1)
        go_roundw
        case rel => exact ⟨k + 1, by omega, by go_num, ⟨fun j hj => by rcases Nat.lt_succ_iff_lt_or_eq.1 hj with h | rfl; exact HP.out j h; exact HT.out⟩, HB1⟩
        case measure => simp [intOf]; omega
      | false =>
        have HC := Lib.hid (param_Row_1.calls (rd_T28 l0 k).f0 (rd_T28 l0 k).f1 (rd_T28 l0 k).f2 (rd_T28 l0 k).f3 (rd_T28 l0 k).f4 true wr (by unfold param_Row_1.f; rw [check_eq, hb]; rfl))
        have HT := Lib.hid hb
        clear hb
        go_wp2_with (go_at_call 77; refine HC.out.mono ?_; rintro e w1 ⟨rfl, hb1⟩; have HB1 := Aside0.mk (below_step HB.out hb1); clear hb1)
        go_ret
        exact ⟨by rw [badAt_some hlt HP.out HT.out]; rfl, HB1.out⟩
    · go_wp2
      go_ret
      exact ⟨by rw [badAt_none (fun j hj => HP.out j (by omega))]; rfl, HB.out⟩
set_option maxHeartbeats 4000000 in
set_option maxRecDepth 100000 in
theorem taskContains.calls (A0 : Option Addr) (c0 : Nat) (l0 : List S28) (w : World) (hr0 : Kd.C k28 w A0 l0.length l0) (hc0 : l0.length ≤ c0) :
    Calls Try.prog 76 #[.slice A0 l0.length c0, .func (.func 77) #[] #[]] w fun e w' => e = .returned (.bool (!(l0.all taskB))) ∧ Below w.heap.size w w' := by
  have HC := Lib.hid (taskIndex.calls A0 c0 l0 w hr0 hc0)
  clear hr0 hc0
  go_enter Try.func76, Try.ntmps76
  go_wp2_with (go_at_call 98; refine HC.out.mono ?_; rintro e w1 ⟨rfl, hb1⟩; have HB1 := Aside0.mk hb1; clear hb1)
  go_ret
  exact ⟨by rw [badAt_all]; rfl, HB1.out⟩
set_option maxHeartbeats 4000000 in
set_option maxRecDepth 100000 in
theorem param_Row.calls (A0 : Option Addr) (c0 : Nat) (l0 : List S28) (r : Bool) (w : World) (hr0 : Kd.C k28 w A0 l0.length l0) (hc0 : l0.length ≤ c0) (h : param_Row.f l0 = some r) :
    Calls Try.prog 40 #[.slice A0 l0.length c0] w fun e w' => e = .returned (.bool r) ∧ Below w.heap.size w w' := by
  have HC := Lib.hid (taskContains.calls A0 c0 l0 w hr0 hc0)
  have HE := Lib.hid (Option.some.inj h)
  clear hr0 hc0 h
  by_cases hl : l0.length ≤ 16
  · go_enter Try.func40, Try.ntmps40
    go_wp2_with (go_at_call 76; refine HC.out.mono ?_; rintro e w1 ⟨rfl, hb1⟩; have HB1 := Aside0.mk hb1; clear hb1)
    go_ret
    exact ⟨by rw [← HE.out]; simp [hl], HB1.out⟩
  · go_enter Try.func40, Try.ntmps40
    go_wp2
    go_ret
    exact ⟨by rw [← HE.out]; simp [hl], Below.refl _ _⟩

/-! ### param_Period: function 37 (by hand) -/
/-- Gcd makes nothing. -/
theorem gcd_quiet (k : Nat) (a0 : Int) (a1 : Int) (r : Int) (w : World) (h : param_Gcd.f k a0 a1 = some r) :
    Calls Try.prog 75 #[.int .i64 a0, .int .i64 a1] w fun e w' => e = .returned (.int .i64 r) ∧ ∃ n, w' = w.drewN n := by
  have H : (param_Gcd.l0 k a0 a1) = some r := h
  clear h
  have H' := Aside0.mk H
  clear H
  go_enter Try.func75, Try.ntmps75
  go_wp2
  go_loopg [0, 1] k (fun kq v0 v1 w' => ∃ (x0_1 : Int) (x1_1 : Int), v0 = .int .i64 x0_1 ∧ v1 = .int .i64 x1_1 ∧ Aside0 (param_Gcd.l0 kq x0_1 x1_1 = some r) ∧ Aside0 (kq ≤ k) ∧ Aside0 (∃ n, w' = w.drewN n))
  case atStart => exact ⟨a0, a1, rfl, rfl, H', ⟨Nat.le_refl _⟩, ⟨0, rfl⟩⟩
  case round =>
    clear H'
    obtain ⟨x0_1, x1_1, rfl, rfl, HA, HK1, HB⟩ := hrel
    cases gk with
    | zero => exact absurd HA.out (by simp [param_Gcd.l0])
    | succ k1 =>
      have H := HA.out
      clear HA
      simp only [param_Gcd.l0] at H
      by_cases c3 : x1_1 = 0
      · rw [if_pos c3] at H
        have c3b0 : (x1_1 == 0) = true := beq_iff_eq.mpr c3
        have c3b1 : (x1_1 != 0) = false := bne_eq_false_iff_eq.mpr c3
        clear c3
        obtain ⟨ji4, hji4⟩ : ∃ j_ : Int, (mx x0_1 (wrap64 (-x0_1))) = j_ := ⟨_, rfl⟩
        replace H : (some ji4) = some r := by rw [hji4] at H; exact H
        have hji4_ : (if x0_1 < (wrap64 (-x0_1)) then (wrap64 (-x0_1)) else x0_1) = ji4 := hji4
        obtain rfl := Option.some.inj H
        go_wp2
        go_ret
        exact ⟨by first | rfl | (simp only [← hji4]; rfl), HB.out⟩
      · rw [if_neg c3] at H
        have c3b0 : (x1_1 == 0) = false := beq_eq_false_iff_ne.mpr c3
        have c3b1 : (x1_1 != 0) = true := bne_iff_ne.mpr c3
        have H' := Aside0.mk H
        clear H
        go_wp2
        go_quiet (fail)
        try go_wp2
        go_roundg k1
        case measure => have := HK1.out; omega
        case rel => exact ⟨x1_1, Int.tmod x0_1 x1_1, rfl, rfl, H', ⟨by have := HK1.out; omega⟩, ⟨by obtain ⟨n0, hn0⟩ := HB.out; rw [hn0]; exact ⟨_, World.drewN_drewN _ _ _⟩⟩⟩
set_option maxHeartbeats 4000000 in
theorem times.calls (k g : Nat) (m n gv : Int) (w : World) (hc : w.cell? ⟨g, 0, none⟩ = some (.int .i64 m)) (hf : w.frozen? ⟨g, 0, none⟩ = false) (hg : param_Gcd.f k m n = some gv) (hne : gv ≠ 0) :
    Calls Try.prog 74 #[.int .i64 n, .pointer (some ⟨g, 0, none⟩)] w fun e w' => e = .returned (.bool (decide (wrap64 (m * wrap64 (Int.tdiv n gv)) ≤ 1048576))) ∧ ∃ q, w' = (w.setCell ⟨g, 0, none⟩ (.int .i64 (wrap64 (m * wrap64 (Int.tdiv n gv))))).drewN q := by
  have H := Lib.hid hg
  have hb0 : (gv == 0) = false := beq_eq_false_iff_ne.mpr hne
  have hb1 : (gv != 0) = true := bne_iff_ne.mpr hne
  clear hg
  go_enter Try.func74, Try.ntmps74
  go_wp2_with fail
  go_region_with (go_at_call 75; refine (gcd_quiet k _ _ gv _ H.out).mono ?_; rintro e w1 ⟨rfl, q1, rfl⟩)
  all_goals go_wp2
  all_goals go_ret
  all_goals exact ⟨rfl, 1 + q1, rfl⟩
theorem pw_below_drewN' {B : Nat} {w W : World} (h : Below B w W) (n : Nat) : Below B w (W.drewN n) := ⟨h.os, h.tape, h.output, h.size, h.block⟩
/-- .. said of a variable in memory that is a block of its own. -/
theorem times.calls2 (k g : Nat) (m n gv m' : Int) (w : World) (hG : w.heap[g]? = some (.cells #[.int .i64 m] 2 (0, 0))) (hg : param_Gcd.f k m n = some gv) (hne : gv ≠ 0) (hm : wrap64 (m * wrap64 (Int.tdiv n gv)) = m') :
    Calls Try.prog 74 #[.int .i64 n, .pointer (some ⟨g, 0, none⟩)] w fun e w' => e = .returned (.bool (decide (m' ≤ 1048576))) ∧ w'.heap[g]? = some (.cells #[.int .i64 m'] 2 (0, 0)) ∧ ∀ B, B ≤ g → Below B w w' := by
  refine (times.calls k g m n gv w ((blk_cell hG 0).trans rfl) (blk_frozen hG 0) hg hne).mono ?_
  rintro e w' ⟨rfl, q, rfl⟩
  rw [hm]
  refine ⟨rfl, ?_, fun B hB => ?_⟩
  · have := blk_set hG 0 (.int .i64 m')
    simpa using this
  · exact pw_below_drewN' ((Below.refl B w).setCell (p := ⟨g, 0, none⟩) hB _) q
def period.go (k : Nat) : List S28 → Int → Option (Int × Int)
  | [], m => some (m, 0)
  | s :: l, m => (param_Gcd.f k m s.f3).bind fun g => if g = 0 then none else if wrap64 (m * wrap64 (Int.tdiv s.f3 g)) ≤ 1048576 then period.go k l (wrap64 (m * wrap64 (Int.tdiv s.f3 g))) else some (0, 16)
theorem period.go_mono (k : Nat) : ∀ l m, LeO (period.go k l m) (period.go (k + 1) l m)
  | [], m => LeO.refl _
  | s :: l, m => by
    unfold period.go
    refine LeO.bind (param_Gcd.mono _ _ k) (fun g => ?_)
    exact LeO.ite (LeO.none _) (LeO.ite (period.go_mono k l _) (LeO.refl _))
def param_Period.f (k : Nat) (l0 : List S28) : Option (Int × Int) := (param_Row.f l0).bind fun b => if b = true then period.go k l0 1 else some (0, 1)
theorem param_Period.mono : ∀ a0 k, LeO (param_Period.f k a0) (param_Period.f (k + 1) a0) := by
  intro a0 k
  unfold param_Period.f
  exact LeO.bind (LeO.refl _) (fun b => LeO.ite (period.go_mono k _ _) (LeO.refl _))
theorem drop_at {l0 : List S28} {i : Nat} (h : i < l0.length) : l0.drop i = rd_T28 l0 (i : Int) :: l0.drop (i + 1) := by
  rw [List.drop_eq_getElem_cons h]; simp [rd_T28, h]
set_option maxHeartbeats 4000000 in
set_option maxRecDepth 100000 in
theorem param_Period.calls (k : Nat) (A0 : Option Addr) (c0 : Nat) (l0 : List S28) (r1 r2 : Int) (w : World) (hr0 : Kd.C k28 w A0 l0.length l0) (hc0 : l0.length ≤ c0) (h : param_Period.f k l0 = some (r1, r2)) :
    Calls Try.prog 37 #[.slice A0 l0.length c0] w fun e w' => e = .returned (.tuple #[.int .i64 r1, .int .i64 r2]) ∧ Below w.heap.size w w' := by
  have hu := Try.underlying28
  have hmax : l0.length ≤ 9223372036854775807 := Kd.C_max hr0
  unfold param_Period.f at h
  obtain ⟨b, hb, h⟩ := Option.bind_eq_some_iff.mp h
  have HR := Lib.hid (param_Row.calls A0 c0 l0 b w hr0 hc0 hb)
  have HR0 := Aside0.mk hr0
  have HC0 := Aside0.mk hc0
  clear hr0 hc0 hb
  cases b with
  | false =>
    have HE := Lib.hid (Option.some.inj (show some ((0 : Int), (1 : Int)) = some (r1, r2) from h))
    clear h
    go_enter Try.func37, Try.ntmps37
    go_wp2
    go_step3
    go_wp2_with (go_at_call 40; refine HR.out.mono ?_; rintro e w1 ⟨rfl, hb1⟩; have HB1 := Aside0.mk hb1; clear hb1)
    try rw [Exit.noGoto_ret]
    go_ret2
    exact ⟨by cases HE.out; rfl, HB1.out⟩
  | true =>
    have HG0 := Lib.hid (show period.go k l0 1 = some (r1, r2) from h)
    clear h
    go_enter Try.func37, Try.ntmps37
    go_wp2
    go_step3
    go_wp2_with (go_at_call 40; refine HR.out.mono ?_; rintro e w1 ⟨rfl, hb1⟩; have HB1 := Aside0.mk hb1; clear hb1)
    go_step3
    go_wp2
    have hg0 : (w1.alloc (.cells #[.int .i64 1] 2)).heap[w1.heap.size]? = some (.cells #[.int .i64 1] 2 (0, 0)) := by simpa using heap_alloc_new w1 _
    have HS := Lib.hid (HB1.out.size : w.heap.size ≤ w1.heap.size)
    have HBA := Aside0.mk (below_alloc HB1.out (.cells #[.int .i64 1] 2))
    generalize hgg : w1.heap.size = g at hg0 HS ⊢
    have HGG := Lib.hid hgg
    clear hgg
    obtain ⟨wa, hwa⟩ : ∃ wa, w1.alloc (.cells #[.int .i64 1] 2) = wa := ⟨_, rfl⟩
    rw [hwa] at hg0 HBA ⊢
    clear hwa HB1
    have HG1 := Lib.hid hg0
    clear hg0
    go_loopw [6, 8, 15] (fun v6 _ v15 wr => ∃ (i : Nat) (m : Int), v6 = .int .i64 0 ∧ i ≤ l0.length ∧ v15 = .int .i64 i ∧ Hid (wr.heap[g]? = some (.cells #[.int .i64 m] 2 (0, 0))) ∧ Hid (period.go k (l0.drop i) m = some (r1, r2)) ∧ Aside0 (Below w.heap.size w wr)) (fun _ _ v15 _ => l0.length - (intOf v15).toNat)
    case atStart => exact ⟨0, 1, rfl, Nat.zero_le _, rfl, HG1, HG0, HBA⟩
    case round =>
      obtain ⟨i, m, rfl, hi, rfl, HG, HP, HB⟩ := hrel
      by_cases hlt : i < l0.length
      · have p0 : (0 : Int) ≤ (i : Int) := by omega
        have q0 : (i : Int) < (l0.length : Int) := by omega
        obtain ⟨ad, e0, hx0, hx1, hx2, hx3, hx4⟩ := at_T28 HR0.out i p0 q0
        cases e0
        replace hx0 := (HB.out.cell (World.block_lt_of_cell? w _ hx0)).trans hx0
        replace hx1 := (HB.out.cell (World.block_lt_of_cell? w _ hx1)).trans hx1
        replace hx2 := (HB.out.cell (World.block_lt_of_cell? w _ hx2)).trans hx2
        replace hx3 := (HB.out.cell (World.block_lt_of_cell? w _ hx3)).trans hx3
        replace hx4 := (HB.out.cell (World.block_lt_of_cell? w _ hx4)).trans hx4
        simp only [Int.toNat_natCast] at hx0 hx1 hx2 hx3 hx4
        have hp := HP.out
        rw [drop_at hlt] at hp
        unfold period.go at hp
        obtain ⟨gv, hgv, hp⟩ := Option.bind_eq_some_iff.mp hp
        by_cases hne : gv = 0
        · rw [if_pos hne] at hp; cases hp
        rw [if_neg hne] at hp
        obtain ⟨m', hm'⟩ : ∃ m', wrap64 (m * wrap64 (Int.tdiv (rd_T28 l0 (i : Int)).f3 gv)) = m' := ⟨_, rfl⟩
        rw [hm'] at hp
        have HT := fun (W : World) (hW : W.heap[g]? = some (.cells #[.int .i64 m] 2 (0, 0))) => times.calls2 k g m _ gv m' W hW hgv hne hm'
        have HT' := Lib.hid HT
        have hgl : g < wr.heap.size := (Array.getElem?_eq_some_iff.1 HG.out).1
        clear HT hgv hm' hne HP
        by_cases hle : m' ≤ 1048576
        · rw [if_pos hle] at hp
          have HP' := Lib.hid hp
          have hd : decide (m' ≤ 1048576) = true := decide_eq_true hle
          clear hp hle
          go_wp2_with (go_at_call 74; refine (HT'.out _ ((Below.heap_alloc _ _ g hgl).trans HG.out)).mono ?_; rintro e w2 ⟨rfl, hg2, hb2⟩; have HG2 := Lib.hid hg2; have HB2 := Aside0.mk (Below.trans (below_alloc HB.out _) (hb2 _ (by have := HS.out; omega))); clear hg2 hb2)
          go_roundw
          case rel => exact ⟨i + 1, m', rfl, by omega, by go_num, HG2, HP', HB2⟩
          case measure => simp [intOf]; omega
        · rw [if_neg hle] at hp
          have HP' := Lib.hid (Option.some.inj hp)
          have hd : decide (m' ≤ 1048576) = false := decide_eq_false hle
          clear hp hle
          go_wp2_with (go_at_call 74; refine (HT'.out _ ((Below.heap_alloc _ _ g hgl).trans HG.out)).mono ?_; rintro e w2 ⟨rfl, hg2, hb2⟩; have hcc : w2.cell? ⟨g, 0, none⟩ = some (.int .i64 m') := (blk_cell hg2 0).trans rfl; have hff : w2.frozen? ⟨g, 0, none⟩ = false := blk_frozen hg2 0; have HG2 := Lib.hid hg2; have HB2 := Aside0.mk (Below.trans (below_alloc HB.out _) (hb2 _ (by have := HS.out; omega))); clear hg2 hb2)
          try rw [Exit.noGoto_ret]
          go_ret2
          exact ⟨by cases HP'.out; rfl, below_set HB2.out (by exact HS.out)⟩
      · have hii : i = l0.length := by omega
        have hcc : wr.cell? ⟨g, 0, none⟩ = some (.int .i64 m) := (blk_cell HG.out 0).trans rfl
        have HP' : Hid (m = r1 ∧ (0 : Int) = r2) := by
          have hp := HP.out
          rw [hii, List.drop_length] at hp
          unfold period.go at hp
          have := Option.some.inj hp
          simp only [Prod.mk.injEq] at this
          exact this
        clear HP hii
        go_wp2
        try rw [Exit.noGoto_ret]
        go_ret2
        exact ⟨by obtain ⟨e1, e2⟩ := HP'.out; rw [← e1, ← e2]; rfl, HB.out⟩
-- param_Row param_Gcd

/-! ### param_Load: function 32 -/
def param_Load.l0 : Nat → Int → Int → List (S28) → Int → Int → Option (Int × Int × Int)
  | 0, _, _, _, _, _ => none
  | k + 1, x5, x7, x18, x19, x20 => if x20 < x19 then (if 0 ≤ x20 then (if x20 < (x18.length : Int) then (if ((rd_T28 x18 x20).f3) = 0 then (none) else (param_Load.l0 k x5 (wrap64 (x7 + (wrap64 (((rd_T28 x18 x20).f1) * (wrap64 (Int.tdiv x5 ((rd_T28 x18 x20).f3))))))) x18 x19 (wrap64 (x20 + 1)))) else (none)) else (none)) else (some (x7, x5, 0))
def param_Load.f (k : Nat) (l0 : List (S28)) : Option (Int × Int × Int) := (param_Period.f k l0).bind fun bt132 => (if bt132.2 = 0 then (param_Load.l0 k bt132.1 0 l0 (l0.length : Int) 0) else (some (0, 0, bt132.2)))
theorem param_Load.mono_l : ∀ k, (∀ y0 y1 y2 y3 y4, LeO (param_Load.l0 k y0 y1 y2 y3 y4) (param_Load.l0 (k + 1) y0 y1 y2 y3 y4))
  | 0 => fun _ _ _ _ _ r h => by simp [param_Load.l0] at h
  | k + 1 => by
    have ih0 := param_Load.mono_l k
    · intro y0 y1 y2 y3 y4
      unfold param_Load.l0
      repeat' first
      | (with_reducible exact ih0 _ _ _ _ _)
      | (with_reducible exact param_Period.mono _ _)
      | (with_reducible exact LeO.refl _)
      | (with_reducible exact LeO.none _)
      | (with_reducible refine LeO.ite ?_ ?_)
      | (with_reducible refine LeO.bind ?_ (fun _ => ?_))
      | exact ih0 _ _ _ _ _
      | exact param_Period.mono _ _
      | exact LeO.none _
      | refine LeO.ite ?_ ?_
      | refine LeO.bind ?_ (fun _ => ?_)
theorem param_Load.mono : ∀ a0 k, LeO (param_Load.f k a0) (param_Load.f (k + 1) a0) := by
  intro a0 k
  have ih0 := param_Load.mono_l k
  unfold param_Load.f
  repeat' first
      | (with_reducible exact ih0 _ _ _ _ _)
      | (with_reducible exact param_Period.mono _ _)
      | (with_reducible exact LeO.refl _)
      | (with_reducible exact LeO.none _)
      | (with_reducible refine LeO.ite ?_ ?_)
      | (with_reducible refine LeO.bind ?_ (fun _ => ?_))
      | exact ih0 _ _ _ _ _
      | exact param_Period.mono _ _
      | exact LeO.none _
      | refine LeO.ite ?_ ?_
      | refine LeO.bind ?_ (fun _ => ?_)
set_option maxHeartbeats 8000000 in
set_option maxRecDepth 100000 in
theorem param_Load.calls (k : Nat) (A0 : Option Addr) (c0 : Nat) (l0 : List (S28)) (r1 : Int) (r2 : Int) (r3 : Int) (w : World) (hr0 : Kd.C k28 w A0 l0.length l0) (hc0 : l0.length ≤ c0) (h : param_Load.f k l0 = some (r1, r2, r3)) :
    Calls Try.prog 32 #[.slice A0 l0.length c0] w fun e w' => e = .returned (.tuple #[.int .i64 r1, .int .i64 r2, .int .i64 r3]) ∧ Below w.heap.size w w' := by
  have hu28 := Try.underlying28
  have HR0 := Aside0.mk hr0
  have HC0 := Aside0.mk hc0
  clear hr0 hc0
  have HB := Aside0.mk (Below.refl w.heap.size w)
  have H : ((param_Period.f k l0).bind fun bt132 => (if bt132.2 = 0 then (param_Load.l0 k bt132.1 0 l0 (l0.length : Int) 0) else (some (0, 0, bt132.2)))) = some (r1, r2, r3) := h
  clear h
  replace H := Option.bind_eq_some_iff.mp H
  obtain ⟨⟨t132, t133⟩, A20, H⟩ := H
  replace H : (if t133 = 0 then (param_Load.l0 k t132 0 l0 (l0.length : Int) 0) else (some (0, 0, t133))) = some (r1, r2, r3) := H
  have A2 := Aside0.mk A20
  clear A20
  by_cases c3 : t133 = 0
  · rw [if_pos c3] at H
    have c3b0 : (t133 == 0) = true := beq_iff_eq.mpr c3
    have c3b1 : (t133 != 0) = false := bne_eq_false_iff_eq.mpr c3
    clear c3
    have H' := Aside0.mk H
    clear H
    go_enter Try.func32, Try.ntmps32
    go_wp2_with (first | (go_at_call 37; (with_reducible refine (param_Period.calls k _ _ l0 t132 t133 _ ?side1 ?side2 A2.out).mono ?_); (case side1 => repeat (first | exact HR0.out | (with_reducible refine Kd.C_alloc ?_ _) | (with_reducible refine Kd.C_drewN ?_ _) | (with_reducible refine Kd.C_drew ?_))); (case side2 => exact HC0.out); rintro e w4 ⟨rfl, hb⟩; have n0_ := Aside0.mk (below_step (by repeat (first | (with_reducible first | exact HB.out | apply below_alloc | apply pw_below_drewN | apply below_drew1) | exact HB.out)) hb); clear HB; have HB := n0_; clear n0_; (try clear hb); (try clear hb2); (try clear hk); (try clear hi)))
    repeat (go_quiet (first | (go_at_call 37; (with_reducible refine (param_Period.calls k _ _ l0 t132 t133 _ ?side1 ?side2 A2.out).mono ?_); (case side1 => repeat (first | exact HR0.out | (with_reducible refine Kd.C_alloc ?_ _) | (with_reducible refine Kd.C_drewN ?_ _) | (with_reducible refine Kd.C_drew ?_))); (case side2 => exact HC0.out); rintro e w4 ⟨rfl, hb⟩; have n0_ := Aside0.mk (below_step (by repeat (first | (with_reducible first | exact HB.out | apply below_alloc | apply pw_below_drewN | apply below_drew1) | exact HB.out)) hb); clear HB; have HB := n0_; clear n0_; (try clear hb); (try clear hb2); (try clear hk); (try clear hi))); try go_wp2_with (first | (go_at_call 37; (with_reducible refine (param_Period.calls k _ _ l0 t132 t133 _ ?side1 ?side2 A2.out).mono ?_); (case side1 => repeat (first | exact HR0.out | (with_reducible refine Kd.C_alloc ?_ _) | (with_reducible refine Kd.C_drewN ?_ _) | (with_reducible refine Kd.C_drew ?_))); (case side2 => exact HC0.out); rintro e w4 ⟨rfl, hb⟩; have n0_ := Aside0.mk (below_step (by repeat (first | (with_reducible first | exact HB.out | apply below_alloc | apply pw_below_drewN | apply below_drew1) | exact HB.out)) hb); clear HB; have HB := n0_; clear n0_; (try clear hb); (try clear hb2); (try clear hk); (try clear hi))))
    go_loopg [7, 20] k (fun kq v7 v20 w' => ∃ (x7_1 : Int) (x20_1 : Int), v7 = .int .i64 x7_1 ∧ v20 = .int .i64 x20_1 ∧ Aside0 (param_Load.l0 kq t132 x7_1 l0 (l0.length : Int) x20_1 = some (r1, r2, r3)) ∧ Aside0 (kq ≤ k) ∧ Aside0 (Below w.heap.size w w'))
    case atStart => exact ⟨(0), (0), (by first | rfl | (simp; done) | (simp [*]; done)), (by first | rfl | (simp; done) | (simp [*]; done)), H', ⟨Nat.le_refl _⟩, ⟨by repeat (first | (with_reducible first | exact HB.out | apply below_alloc | apply pw_below_drewN | apply below_drew1) | exact HB.out)⟩⟩
    case round =>
      clear H'
      try clear p2
      try clear c3
      try clear c3b0
      try clear c3b1
      obtain ⟨x7_1, x20_1, rfl, rfl, HA, HK1, HB⟩ := hrel
      cases gk with
      | zero => exact absurd HA.out (by simp [param_Load.l0])
      | succ k1 =>
        have H := HA.out
        clear HA
        simp only [param_Load.l0] at H
        by_cases c5 : x20_1 < (l0.length : Int)
        · rw [if_pos c5] at H
          have c5b0 : decide (x20_1 < (l0.length : Int)) = true := decide_eq_true c5
          clear c5
          by_cases c6 : 0 ≤ x20_1
          · rw [if_pos c6] at H
            have c6b0 : decide (0 ≤ x20_1) = true := decide_eq_true c6
            clear c6
            by_cases c7 : x20_1 < (l0.length : Int)
            · rw [if_pos c7] at H
              have c7b0 : decide (x20_1 < (l0.length : Int)) = true := decide_eq_true c7
              clear c7
              by_cases c8 : ((rd_T28 l0 x20_1).f3) = 0
              · rw [if_pos c8] at H
                exact absurd H (by simp)
              · rw [if_neg c8] at H
                have c8b0 : (((rd_T28 l0 x20_1).f3) == 0) = false := beq_eq_false_iff_ne.mpr c8
                have c8b1 : (((rd_T28 l0 x20_1).f3) != 0) = true := bne_iff_ne.mpr c8
                have H' := Aside0.mk H
                clear H
                have p134 : 0 ≤ (x20_1 : Int) := of_decide_eq_true (by first | (with_reducible assumption) | assumption)
                have q134 : x20_1 < (l0.length : Int) := of_decide_eq_true (by first | (with_reducible assumption) | assumption)
                obtain ⟨ad134, e134, hx134_0, hx134_1, hx134_2, hx134_3, hx134_4⟩ := at_T28 HR0.out x20_1 p134 q134
                cases e134
                replace hx134_0 := (HB.out.cell (World.block_lt_of_cell? w _ hx134_0)).trans hx134_0
                replace hx134_1 := (HB.out.cell (World.block_lt_of_cell? w _ hx134_1)).trans hx134_1
                replace hx134_2 := (HB.out.cell (World.block_lt_of_cell? w _ hx134_2)).trans hx134_2
                replace hx134_3 := (HB.out.cell (World.block_lt_of_cell? w _ hx134_3)).trans hx134_3
                replace hx134_4 := (HB.out.cell (World.block_lt_of_cell? w _ hx134_4)).trans hx134_4
                replace p134 := eq_true p134
                replace q134 := eq_true q134
                go_wp2_with (first | ((with_reducible refine gate_dst (N := 9) rfl ?_); refine box_event ?hg (N := 9) ?hd (cs := #[.int .i64 0, .int .i64 0, .int .i64 0, .int .i64 0, .int .i64 0]) (t := 28) ?hr ?_; (case hd => rfl); (case hg => rfl); (case hr => first | (go_simp; done) | (go_simp; rfl)); intro gb135 hg w9 hbox hb; have n0_ := Aside0.mk (below_step (by repeat (first | (with_reducible first | exact HB.out | apply below_alloc | apply pw_below_drewN | apply below_drew1) | exact HB.out)) hb); have n1_ := Aside0.mk (hbox); have n2_ := Aside0.mk ((by rw [hg]; exact (below_size (by repeat (first | (with_reducible first | exact HB.out | apply below_alloc | apply pw_below_drewN | apply below_drew1) | exact HB.out))) : w.heap.size ≤ gb135)); have n3_ := Aside0.mk ((by rw [hg]; exact (below_size (by repeat (first | (with_reducible first | exact HB.out | apply below_alloc | apply pw_below_drewN | apply below_drew1) | exact HB.out))) : w.heap.size ≤ gb135)); clear HB; have HB := n0_; have BK135 := n1_; have GW135 := n2_; have GE135 := n3_; clear n0_ n1_ n2_ n3_; clear hb hbox hg; have hcz10_0 : w9.cell? ⟨gb135, 0, none⟩ = some (.int .i64 0) := (blk_cell BK135.out 0).trans rfl; have hcz10_1 : w9.cell? ⟨gb135, 1, none⟩ = some (.int .i64 0) := (blk_cell BK135.out 1).trans rfl; have hcz10_2 : w9.cell? ⟨gb135, 2, none⟩ = some (.int .i64 0) := (blk_cell BK135.out 2).trans rfl; have hcz10_3 : w9.cell? ⟨gb135, 3, none⟩ = some (.int .i64 0) := (blk_cell BK135.out 3).trans rfl; have hcz10_4 : w9.cell? ⟨gb135, 4, none⟩ = some (.int .i64 0) := (blk_cell BK135.out 4).trans rfl; have hfz10_0 := blk_frozen BK135.out 0; have hfz10_1 := blk_frozen BK135.out 1; have hfz10_2 := blk_frozen BK135.out 2; have hfz10_3 := blk_frozen BK135.out 3; have hfz10_4 := blk_frozen BK135.out 4))
                repeat (go_quiet (first | ((with_reducible refine gate_dst (N := 9) rfl ?_); refine box_event ?hg (N := 9) ?hd (cs := #[.int .i64 0, .int .i64 0, .int .i64 0, .int .i64 0, .int .i64 0]) (t := 28) ?hr ?_; (case hd => rfl); (case hg => rfl); (case hr => first | (go_simp; done) | (go_simp; rfl)); intro gb135 hg w9 hbox hb; have n0_ := Aside0.mk (below_step (by repeat (first | (with_reducible first | exact HB.out | apply below_alloc | apply pw_below_drewN | apply below_drew1) | exact HB.out)) hb); have n1_ := Aside0.mk (hbox); have n2_ := Aside0.mk ((by rw [hg]; exact (below_size (by repeat (first | (with_reducible first | exact HB.out | apply below_alloc | apply pw_below_drewN | apply below_drew1) | exact HB.out))) : w.heap.size ≤ gb135)); have n3_ := Aside0.mk ((by rw [hg]; exact (below_size (by repeat (first | (with_reducible first | exact HB.out | apply below_alloc | apply pw_below_drewN | apply below_drew1) | exact HB.out))) : w.heap.size ≤ gb135)); clear HB; have HB := n0_; have BK135 := n1_; have GW135 := n2_; have GE135 := n3_; clear n0_ n1_ n2_ n3_; clear hb hbox hg; have hcz10_0 : w9.cell? ⟨gb135, 0, none⟩ = some (.int .i64 0) := (blk_cell BK135.out 0).trans rfl; have hcz10_1 : w9.cell? ⟨gb135, 1, none⟩ = some (.int .i64 0) := (blk_cell BK135.out 1).trans rfl; have hcz10_2 : w9.cell? ⟨gb135, 2, none⟩ = some (.int .i64 0) := (blk_cell BK135.out 2).trans rfl; have hcz10_3 : w9.cell? ⟨gb135, 3, none⟩ = some (.int .i64 0) := (blk_cell BK135.out 3).trans rfl; have hcz10_4 : w9.cell? ⟨gb135, 4, none⟩ = some (.int .i64 0) := (blk_cell BK135.out 4).trans rfl; have hfz10_0 := blk_frozen BK135.out 0; have hfz10_1 := blk_frozen BK135.out 1; have hfz10_2 := blk_frozen BK135.out 2; have hfz10_3 := blk_frozen BK135.out 3; have hfz10_4 := blk_frozen BK135.out 4)); try go_wp2_with (first | ((with_reducible refine gate_dst (N := 9) rfl ?_); refine box_event ?hg (N := 9) ?hd (cs := #[.int .i64 0, .int .i64 0, .int .i64 0, .int .i64 0, .int .i64 0]) (t := 28) ?hr ?_; (case hd => rfl); (case hg => rfl); (case hr => first | (go_simp; done) | (go_simp; rfl)); intro gb135 hg w9 hbox hb; have n0_ := Aside0.mk (below_step (by repeat (first | (with_reducible first | exact HB.out | apply below_alloc | apply pw_below_drewN | apply below_drew1) | exact HB.out)) hb); have n1_ := Aside0.mk (hbox); have n2_ := Aside0.mk ((by rw [hg]; exact (below_size (by repeat (first | (with_reducible first | exact HB.out | apply below_alloc | apply pw_below_drewN | apply below_drew1) | exact HB.out))) : w.heap.size ≤ gb135)); have n3_ := Aside0.mk ((by rw [hg]; exact (below_size (by repeat (first | (with_reducible first | exact HB.out | apply below_alloc | apply pw_below_drewN | apply below_drew1) | exact HB.out))) : w.heap.size ≤ gb135)); clear HB; have HB := n0_; have BK135 := n1_; have GW135 := n2_; have GE135 := n3_; clear n0_ n1_ n2_ n3_; clear hb hbox hg; have hcz10_0 : w9.cell? ⟨gb135, 0, none⟩ = some (.int .i64 0) := (blk_cell BK135.out 0).trans rfl; have hcz10_1 : w9.cell? ⟨gb135, 1, none⟩ = some (.int .i64 0) := (blk_cell BK135.out 1).trans rfl; have hcz10_2 : w9.cell? ⟨gb135, 2, none⟩ = some (.int .i64 0) := (blk_cell BK135.out 2).trans rfl; have hcz10_3 : w9.cell? ⟨gb135, 3, none⟩ = some (.int .i64 0) := (blk_cell BK135.out 3).trans rfl; have hcz10_4 : w9.cell? ⟨gb135, 4, none⟩ = some (.int .i64 0) := (blk_cell BK135.out 4).trans rfl; have hfz10_0 := blk_frozen BK135.out 0; have hfz10_1 := blk_frozen BK135.out 1; have hfz10_2 := blk_frozen BK135.out 2; have hfz10_3 := blk_frozen BK135.out 3; have hfz10_4 := blk_frozen BK135.out 4)))
                go_roundg k1
                case measure => have := HK1.out; omega
                case rel => exact ⟨(wrap64 (x7_1 + (wrap64 (((rd_T28 l0 x20_1).f1) * (wrap64 (Int.tdiv t132 ((rd_T28 l0 x20_1).f3))))))), (wrap64 (x20_1 + 1)), (by first | rfl | (simp; done) | (simp only [i64_w]; done) | (simp [*]; done)), (by first | rfl | (simp; done) | (simp [*]; done)), H', ⟨by have := HK1.out; omega⟩, ⟨by repeat (first | (with_reducible first | exact HB.out | apply below_alloc | apply pw_below_drewN | apply below_drew1 | refine below_set ?_ GE135.out) | exact HB.out)⟩⟩
            · rw [if_neg c7] at H
              exact absurd H (by simp)
          · rw [if_neg c6] at H
            exact absurd H (by simp)
        · rw [if_neg c5] at H
          have c5b0 : decide (x20_1 < (l0.length : Int)) = false := decide_eq_false c5
          clear c5
          simp only [Option.some.injEq, Prod.mk.injEq] at H
          obtain ⟨rfl, rfl, rfl⟩ := H
          go_wp2
          repeat (go_quiet (fail); try go_wp2)
          go_ret3
          exact ⟨by first | rfl | (simp [errW_none, errW_some] <;> rfl) | (simp [*, errW_none, errW_some] <;> rfl), by repeat (first | (with_reducible first | exact HB.out | apply below_alloc | apply pw_below_drewN | apply below_drew1) | exact HB.out)⟩
  · rw [if_neg c3] at H
    have c3b0 : (t133 == 0) = false := beq_eq_false_iff_ne.mpr c3
    have c3b1 : (t133 != 0) = true := bne_iff_ne.mpr c3
    simp only [Option.some.injEq, Prod.mk.injEq] at H
    obtain ⟨rfl, rfl, rfl⟩ := H
    go_enter Try.func32, Try.ntmps32
    go_wp2_with (first | (go_at_call 37; (with_reducible refine (param_Period.calls k _ _ l0 t132 t133 _ ?side1 ?side2 A2.out).mono ?_); (case side1 => repeat (first | exact HR0.out | (with_reducible refine Kd.C_alloc ?_ _) | (with_reducible refine Kd.C_drewN ?_ _) | (with_reducible refine Kd.C_drew ?_))); (case side2 => exact HC0.out); rintro e w11 ⟨rfl, hb⟩; have n0_ := Aside0.mk (below_step (by repeat (first | (with_reducible first | exact HB.out | apply below_alloc | apply pw_below_drewN | apply below_drew1) | exact HB.out)) hb); clear HB; have HB := n0_; clear n0_; (try clear hb); (try clear hb2); (try clear hk); (try clear hi)))
    repeat (go_quiet (first | (go_at_call 37; (with_reducible refine (param_Period.calls k _ _ l0 t132 t133 _ ?side1 ?side2 A2.out).mono ?_); (case side1 => repeat (first | exact HR0.out | (with_reducible refine Kd.C_alloc ?_ _) | (with_reducible refine Kd.C_drewN ?_ _) | (with_reducible refine Kd.C_drew ?_))); (case side2 => exact HC0.out); rintro e w11 ⟨rfl, hb⟩; have n0_ := Aside0.mk (below_step (by repeat (first | (with_reducible first | exact HB.out | apply below_alloc | apply pw_below_drewN | apply below_drew1) | exact HB.out)) hb); clear HB; have HB := n0_; clear n0_; (try clear hb); (try clear hb2); (try clear hk); (try clear hi))); try go_wp2_with (first | (go_at_call 37; (with_reducible refine (param_Period.calls k _ _ l0 t132 t133 _ ?side1 ?side2 A2.out).mono ?_); (case side1 => repeat (first | exact HR0.out | (with_reducible refine Kd.C_alloc ?_ _) | (with_reducible refine Kd.C_drewN ?_ _) | (with_reducible refine Kd.C_drew ?_))); (case side2 => exact HC0.out); rintro e w11 ⟨rfl, hb⟩; have n0_ := Aside0.mk (below_step (by repeat (first | (with_reducible first | exact HB.out | apply below_alloc | apply pw_below_drewN | apply below_drew1) | exact HB.out)) hb); clear HB; have HB := n0_; clear n0_; (try clear hb); (try clear hb2); (try clear hk); (try clear hi))))
    go_ret3
    exact ⟨by first | rfl | (simp [errW_none, errW_some] <;> rfl) | (simp [*, errW_none, errW_some] <;> rfl), by repeat (first | (with_reducible first | exact HB.out | apply below_alloc | apply pw_below_drewN | apply below_drew1) | exact HB.out)⟩

end Go.Proofs.Ytmgmpifbhjoijaa.PParamHeavier
