-- Made by px.py (a program of this session, over the kit's printer) out of the translation. Not trusted: Lean checks it.
import Derived.Test.YtmgmpifbhjoijaaPProbeReportsx0
import Derived.Test.YtmgmpifbhjoijaaPProbeReportsx3
namespace Go.Proofs.Ytmgmpifbhjoijaa.PProbeReports
open Go.RowKit Go.Proofs.YtmgmpifbhjoijaaW.PrintWords Go.Proofs.YtmgmpifbhjoijaaW.PrintLast Go.Proofs.YtmgmpifbhjoijaaW.PrintMore
attribute [local go_sem] max2_int min2_int max_two min_two max_three min_three max_four min_four   -- for this text's walks alone
set_option linter.unusedVariables false
set_option linter.unusedSimpArgs false

/-! ### demand_Of: function 84 -/
def demand_Of.l0 : Nat → Int → Int → List (S28) → Int → Int → Option (Int)
 | 0, _, _, _, _, _ => none
 | k + 1, x1, x5, x12, x13, x14 => if x14 < x13 then (if 0 ≤ x14 then (if x14 < (x12.length : Int) then ((demand_many.f ((rd_T28 x12 x14).f0) ((rd_T28 x12 x14).f1) ((rd_T28 x12 x14).f2) ((rd_T28 x12 x14).f3) ((rd_T28 x12 x14).f4) x1).bind fun t126 => (demand_Of.l0 k x1 (wrap64 (x5 + (wrap64 (((rd_T28 x12 x14).f1) * t126)))) x12 x13 (wrap64 (x14 + 1)))) else (none)) else (none)) else (some x5)
def demand_Of.f (k : Nat) (l0 : List (S28)) (a1 : Int) : Option (Int) := (demand_may.f l0 a1).bind fun t123 => (if t123 = true then (demand_Of.l0 k a1 0 l0 (l0.length : Int) 0) else (some 0))
theorem demand_Of.mono_l : ∀ k, (∀ y0 y1 y2 y3 y4, LeO (demand_Of.l0 k y0 y1 y2 y3 y4) (demand_Of.l0 (k + 1) y0 y1 y2 y3 y4))
 | 0 => fun _ _ _ _ _ r h => by simp [demand_Of.l0] at h
 | k + 1 => by
  have ih0 := demand_Of.mono_l k
  ·intro y0 y1 y2 y3 y4
   unfold demand_Of.l0
   repeat' first
   | (with_reducible exact ih0 _ _ _ _ _)
   | (with_reducible exact LeO.refl _)
   | (with_reducible exact LeO.none _)
   | (with_reducible refine LeO.ite ?_ ?_)
   | (with_reducible refine LeO.bind ?_ (fun _ => ?_))
   | exact ih0 _ _ _ _ _
   | exact LeO.none _
   | refine LeO.ite ?_ ?_
   | refine LeO.bind ?_ (fun _ => ?_)
theorem demand_Of.mono : ∀ a0 a1 k, LeO (demand_Of.f k a0 a1) (demand_Of.f (k + 1) a0 a1) := by
 intro a0 a1 k
 have ih0 := demand_Of.mono_l k
 unfold demand_Of.f
 repeat' first
   | (with_reducible exact ih0 _ _ _ _ _)
   | (with_reducible exact LeO.refl _)
   | (with_reducible exact LeO.none _)
   | (with_reducible refine LeO.ite ?_ ?_)
   | (with_reducible refine LeO.bind ?_ (fun _ => ?_))
   | exact ih0 _ _ _ _ _
   | exact LeO.none _
   | refine LeO.ite ?_ ?_
   | refine LeO.bind ?_ (fun _ => ?_)
def demand_Of.T7 : Bool × List (List Nat × List Nat) := (true, [([], []), ([], []), ([1], [1]), ([], []), ([], []), ([3, 4], [3, 4]), ([2, 5], [2, 5]), ([0, 6], [0, 6]), ([7, 5, 0, 1, 2, 3, 4, 5, 6, 7], [0, 7])])
def demand_Of.B7 : List Nat := [0, 0, 2, 0, 0, 24, 62, 127, 255]
theorem demand_Of.tab7 : rtab .any (opsOf Try.f84 7) = demand_Of.T7 := by kernel_rfl
theorem demand_Of.bits7 : waitsOk demand_Of.T7.2 demand_Of.B7 = true := by kernel_rfl
set_option maxHeartbeats 8000000 in
set_option maxRecDepth 100000 in
theorem demand_Of.calls (k : Nat) (A0 : Option Addr) (c0 : Nat) (l0 : List (S28)) (a1 : Int) (r : Int) (w : World) (hr0 : Kd.C k28 w A0 l0.length l0) (hc0 : l0.length ≤ c0) (h : demand_Of.f k l0 a1 = some r) :
  Calls Try.prog 84 #[.slice A0 l0.length c0, .int .i64 a1] w fun e w' => e = .returned (.int .i64 r) ∧ Below w.heap.size w w' := by
 have hu28 := Try.underlying28
 have HR0 := Aside0.mk hr0
 have HC0 := Aside0.mk hc0
 clear hr0 hc0
 have HB := Aside0.mk (Below.refl w.heap.size w)
 have H : ((demand_may.f l0 a1).bind fun t123 => (if t123 = true then (demand_Of.l0 k a1 0 l0 (l0.length : Int) 0) else (some 0))) = some r := h
 clear h
 replace H := Option.bind_eq_some_iff.mp H
 obtain ⟨t123, A30, H⟩ := H
 replace H : (if t123 = true then (demand_Of.l0 k a1 0 l0 (l0.length : Int) 0) else (some 0)) = some r := H
 have A3 := Aside0.mk A30
 clear A30
 by_cases c4 : t123 = true
 ·subst c4
  have H1 : (demand_Of.l0 k a1 0 l0 (l0.length : Int) 0) = some r := by rw [if_pos rfl] at H; exact H
  clear H
  have H := H1
  clear H1
  have H' := Aside0.mk H
  clear H
  go_enter Try.func84, Try.ntmps84
  go_wp2_with (first | ((with_reducible refine gate_callee (f := 103) rfl ?_); refine goesL_ (some 10) rfl rfl Try.func103 (by kernel_rfl) rfl #[.slice A0 l0.length c0, .int .i64 a1] rfl (by (try simp only [List.map_toArray, List.map_cons, List.map_nil]); first | done | rfl | (simp only [List.length_drop, List.length_take]; rfl)) ?_; (with_reducible refine (demand_may.calls _ _ l0 a1 true _ ?side1 ?side2 A3.out).mono ?_); (case side1 => repeat (first | exact HR0.out | (with_reducible refine Kd.C_alloc ?_ _) | (with_reducible refine Kd.C_drewN ?_ _) | (with_reducible refine Kd.C_drew ?_))); (case side2 => exact HC0.out); rintro e w5 ⟨rfl, hb⟩; refine ⟨_, rfl, ?_⟩; have n0_ := Aside0.mk (below_step (by repeat (first | (with_reducible first | exact HB.out | apply below_alloc | apply pw_below_drewN | apply below_drew1) | exact HB.out)) hb); clear HB; have HB := n0_; clear n0_; (try clear hb); (try clear hb2); (try clear hk); (try clear hi)))
  go_loopg [5, 14] k (fun kq v5 v14 w' => ∃ (x5_1 : Int) (x14_1 : Int), v5 = .int .i64 x5_1 ∧ v14 = .int .i64 x14_1 ∧ Aside0 (demand_Of.l0 kq a1 x5_1 l0 (l0.length : Int) x14_1 = some r) ∧ Aside0 (kq ≤ k) ∧ Aside0 (Below w.heap.size w w'))
  case atStart => exact ⟨(0), (0), (by first | rfl | (simp; done) | (simp [*]; done)), (by first | rfl | (simp; done) | (simp [*]; done)), H', ⟨Nat.le_refl _⟩, ⟨by repeat (first | (with_reducible first | exact HB.out | apply below_alloc | apply pw_below_drewN | apply below_drew1) | exact HB.out)⟩⟩
  case round =>
   clear H'
   try clear c1
   try clear p2
   try clear c4
   obtain ⟨x5_1, x14_1, rfl, rfl, HA, HK1, HB⟩ := hrel
   cases gk with
   | zero => exact absurd HA.out (by simp [demand_Of.l0])
   | succ k1 =>
    have H := HA.out
    clear HA
    simp only [demand_Of.l0] at H
    by_cases c6 : x14_1 < (l0.length : Int)
    ·rw [if_pos c6] at H
     have c6b0 : decide (x14_1 < (l0.length : Int)) = true := decide_eq_true c6
     clear c6
     by_cases c7 : 0 ≤ x14_1
     ·rw [if_pos c7] at H
      have c7b0 : decide (0 ≤ x14_1) = true := decide_eq_true c7
      clear c7
      by_cases c8 : x14_1 < (l0.length : Int)
      ·rw [if_pos c8] at H
       have c8b0 : decide (x14_1 < (l0.length : Int)) = true := decide_eq_true c8
       clear c8
       replace H := Option.bind_eq_some_iff.mp H
       obtain ⟨t126, A90, H⟩ := H
       replace H : (demand_Of.l0 k1 a1 (wrap64 (x5_1 + (wrap64 (((rd_T28 l0 x14_1).f1) * t126)))) l0 (l0.length : Int) (wrap64 (x14_1 + 1))) = some r := H
       have A9 := Aside0.mk A90
       clear A90
       have H' := Aside0.mk H
       clear H
       have p124 : 0 ≤ (x14_1 : Int) := of_decide_eq_true (by first | (with_reducible assumption) | assumption)
       have q124 : x14_1 < (l0.length : Int) := of_decide_eq_true (by first | (with_reducible assumption) | assumption)
       obtain ⟨ad124, e124, hx124_0, hx124_1, hx124_2, hx124_3, hx124_4⟩ := at_T28 HR0.out x14_1 p124 q124
       cases e124
       replace hx124_0 := (HB.out.cell (World.block_lt_of_cell? w _ hx124_0)).trans hx124_0
       replace hx124_1 := (HB.out.cell (World.block_lt_of_cell? w _ hx124_1)).trans hx124_1
       replace hx124_2 := (HB.out.cell (World.block_lt_of_cell? w _ hx124_2)).trans hx124_2
       replace hx124_3 := (HB.out.cell (World.block_lt_of_cell? w _ hx124_3)).trans hx124_3
       replace hx124_4 := (HB.out.cell (World.block_lt_of_cell? w _ hx124_4)).trans hx124_4
       replace p124 := eq_true p124
       replace q124 := eq_true q124
       try go_wp2_with (first | ((with_reducible refine gate_dst (N := 7) rfl ?_); refine box_event ?hg (N := 7) ?hd (cs := #[.int .i64 0, .int .i64 0, .int .i64 0, .int .i64 0, .int .i64 0]) (t := 28) ?hr ?_; (case hd => rfl); (case hg => rfl); (case hr => first | (go_simp; done) | (go_simp; rfl)); intro gb125 hg w10 hbox hb; have n0_ := Aside0.mk (below_step (by repeat (first | (with_reducible first | exact HB.out | apply below_alloc | apply pw_below_drewN | apply below_drew1) | exact HB.out)) hb); have n1_ := Aside0.mk (hbox); have n2_ := Aside0.mk ((by rw [hg]; exact (below_size (by repeat (first | (with_reducible first | exact HB.out | apply below_alloc | apply pw_below_drewN | apply below_drew1) | exact HB.out))) : w.heap.size ≤ gb125)); have n3_ := Aside0.mk ((by rw [hg]; exact (below_size (by repeat (first | (with_reducible first | exact HB.out | apply below_alloc | apply pw_below_drewN | apply below_drew1) | exact HB.out))) : w.heap.size ≤ gb125)); clear HB; have HB := n0_; have BK125 := n1_; have GW125 := n2_; have GE125 := n3_; clear n0_ n1_ n2_ n3_; clear hb hbox hg; have hcz11_0 : w10.cell? ⟨gb125, 0, none⟩ = some (.int .i64 0) := (blk_cell BK125.out 0).trans rfl; have hcz11_1 : w10.cell? ⟨gb125, 1, none⟩ = some (.int .i64 0) := (blk_cell BK125.out 1).trans rfl; have hcz11_2 : w10.cell? ⟨gb125, 2, none⟩ = some (.int .i64 0) := (blk_cell BK125.out 2).trans rfl; have hcz11_3 : w10.cell? ⟨gb125, 3, none⟩ = some (.int .i64 0) := (blk_cell BK125.out 3).trans rfl; have hcz11_4 : w10.cell? ⟨gb125, 4, none⟩ = some (.int .i64 0) := (blk_cell BK125.out 4).trans rfl; have hfz11_0 := blk_frozen BK125.out 0; have hfz11_1 := blk_frozen BK125.out 1; have hfz11_2 := blk_frozen BK125.out 2; have hfz11_3 := blk_frozen BK125.out 3; have hfz11_4 := blk_frozen BK125.out 4))
       have n0_ : Aside0 ((((((w10.setCell ⟨gb125, 0, none⟩ (.int .i64 ((rd_T28 l0 x14_1).f0))).setCell ⟨gb125, 1, none⟩ (.int .i64 ((rd_T28 l0 x14_1).f1))).setCell ⟨gb125, 2, none⟩ (.int .i64 ((rd_T28 l0 x14_1).f2))).setCell ⟨gb125, 3, none⟩ (.int .i64 ((rd_T28 l0 x14_1).f3))).setCell ⟨gb125, 4, none⟩ (.int .i64 ((rd_T28 l0 x14_1).f4))).heap[gb125]? = some (.cells #[.int .i64 ((rd_T28 l0 x14_1).f0), .int .i64 ((rd_T28 l0 x14_1).f1), .int .i64 ((rd_T28 l0 x14_1).f2), .int .i64 ((rd_T28 l0 x14_1).f3), .int .i64 ((rd_T28 l0 x14_1).f4)] 28 (0, 0))) := ⟨by (with_reducible repeat (first | refine blk_drewN ?_ _ | refine blk_drew ?_ | refine blk_alloc ?_ _)); refine blk_put (cs := #[.int .i64 ((rd_T28 l0 x14_1).f0), .int .i64 ((rd_T28 l0 x14_1).f1), .int .i64 ((rd_T28 l0 x14_1).f2), .int .i64 ((rd_T28 l0 x14_1).f3), .int .i64 0]) ?_ 4 _ rfl; (with_reducible repeat (first | refine blk_drewN ?_ _ | refine blk_drew ?_ | refine blk_alloc ?_ _)); refine blk_put (cs := #[.int .i64 ((rd_T28 l0 x14_1).f0), .int .i64 ((rd_T28 l0 x14_1).f1), .int .i64 ((rd_T28 l0 x14_1).f2), .int .i64 0, .int .i64 0]) ?_ 3 _ rfl; (with_reducible repeat (first | refine blk_drewN ?_ _ | refine blk_drew ?_ | refine blk_alloc ?_ _)); refine blk_put (cs := #[.int .i64 ((rd_T28 l0 x14_1).f0), .int .i64 ((rd_T28 l0 x14_1).f1), .int .i64 0, .int .i64 0, .int .i64 0]) ?_ 2 _ rfl; (with_reducible repeat (first | refine blk_drewN ?_ _ | refine blk_drew ?_ | refine blk_alloc ?_ _)); refine blk_put (cs := #[.int .i64 ((rd_T28 l0 x14_1).f0), .int .i64 0, .int .i64 0, .int .i64 0, .int .i64 0]) ?_ 1 _ rfl; (with_reducible repeat (first | refine blk_drewN ?_ _ | refine blk_drew ?_ | refine blk_alloc ?_ _)); refine blk_put (cs := #[.int .i64 0, .int .i64 0, .int .i64 0, .int .i64 0, .int .i64 0]) ?_ 0 _ rfl; (with_reducible repeat (first | refine blk_drewN ?_ _ | refine blk_drew ?_ | refine blk_alloc ?_ _)); exact BK125.out⟩
       have n1_ : Aside0 (Below w.heap.size w (((((w10.setCell ⟨gb125, 0, none⟩ (.int .i64 ((rd_T28 l0 x14_1).f0))).setCell ⟨gb125, 1, none⟩ (.int .i64 ((rd_T28 l0 x14_1).f1))).setCell ⟨gb125, 2, none⟩ (.int .i64 ((rd_T28 l0 x14_1).f2))).setCell ⟨gb125, 3, none⟩ (.int .i64 ((rd_T28 l0 x14_1).f3))).setCell ⟨gb125, 4, none⟩ (.int .i64 ((rd_T28 l0 x14_1).f4)))) := ⟨by repeat (first | (with_reducible first | exact HB.out | apply below_alloc | apply pw_below_drewN | apply below_drew1 | refine below_set ?_ GE125.out) | exact HB.out)⟩
       (try clear BK125)
       (try clear HB)
       generalize (((((w10.setCell ⟨gb125, 0, none⟩ (.int .i64 ((rd_T28 l0 x14_1).f0))).setCell ⟨gb125, 1, none⟩ (.int .i64 ((rd_T28 l0 x14_1).f1))).setCell ⟨gb125, 2, none⟩ (.int .i64 ((rd_T28 l0 x14_1).f2))).setCell ⟨gb125, 3, none⟩ (.int .i64 ((rd_T28 l0 x14_1).f3))).setCell ⟨gb125, 4, none⟩ (.int .i64 ((rd_T28 l0 x14_1).f4))) = w12 at n0_ n1_ ⊢
       have BK125 := n0_
       have HB := n1_
       clear n0_ n1_
       have n0_ := Aside0.mk (blk_drew BK125.out)
       have n1_ := Aside0.mk (below_drew1 HB.out)
       clear BK125
       clear HB
       have BK125 := n0_
       have HB := n1_
       clear n0_ n1_
       refine start_ (n := 9) (S := fun w' => w'.cell? ⟨gb125, 0, none⟩ = some (.int .i64 ((rd_T28 l0 x14_1).f0)) ∧ w'.cell? ⟨gb125, 1, none⟩ = some (.int .i64 ((rd_T28 l0 x14_1).f1)) ∧ w'.cell? ⟨gb125, 2, none⟩ = some (.int .i64 ((rd_T28 l0 x14_1).f2)) ∧ w'.cell? ⟨gb125, 3, none⟩ = some (.int .i64 ((rd_T28 l0 x14_1).f3)) ∧ w'.cell? ⟨gb125, 4, none⟩ = some (.int .i64 ((rd_T28 l0 x14_1).f4))) (ds := []) #[false, false, false, false, false, false, false, false, false] (by kernel_rfl) rfl rfl ⟨(blk_cell BK125.out 0).trans rfl, (blk_cell BK125.out 1).trans rfl, (blk_cell BK125.out 2).trans rfl, (blk_cell BK125.out 3).trans rfl, (blk_cell BK125.out 4).trans rfl⟩ (fun hHeld => ?_); refine with_tabW demand_Of.tab7 demand_Of.bits7 (fun HT_ HW_ => ?_)
       generalize w12.drew = w13 at BK125 HB hHeld ⊢
       refine pure_ (i := 0) (N := some 18) (v := ?_) (a' := ?_) #[true, false, false, false, false, false, false, false, false] rfl rfl (any_of HT_.out (by kernel_rfl)) (fun _ _ _ h => h) (Or.inl ⟨by rfl, ?_⟩) ?_ ?_
       rotate_left; (intro w'; go_simp; with_reducible rfl); rotate_left; (simp only [Act.put, List.setIfInBounds_toArray, List.set_cons_zero, List.set_cons_succ, i64_w, i32_w]; rfl)
       refine pure_ (i := 1) (N := some 19) (v := ?_) (a' := ?_) #[true, true, false, false, false, false, false, false, false] rfl rfl (any_of HT_.out (by kernel_rfl)) (fun _ _ _ h => h) (Or.inl ⟨by rfl, ?_⟩) ?_ ?_
       rotate_left; (intro w'; go_simp; with_reducible rfl); rotate_left; (simp only [Act.put, List.setIfInBounds_toArray, List.set_cons_zero, List.set_cons_succ, i64_w, i32_w]; rfl)
       refine pure_ (i := 4) (N := some 22) (v := ?_) (a' := ?_) #[true, true, false, false, true, false, false, false, false] rfl rfl (any_of HT_.out (by kernel_rfl)) (fun _ _ _ h => h) (Or.inl ⟨by rfl, ?_⟩) ?_ ?_
       rotate_left; (intro w'; go_simp; with_reducible rfl); rotate_left; (simp only [Act.put, List.setIfInBounds_toArray, List.set_cons_zero, List.set_cons_succ, i64_w, i32_w]; rfl)
       refine take_ (i := 2) (N := some 20) (v := ?_) (a' := ?_) #[true, true, true, false, true, false, false, false, false] rfl rfl (take_ofW HT_.out HW_.out (by kernel_rfl)) (fun _ _ _ h => h) (Or.inl ⟨by rfl, ?_⟩) hHeld ?_ ?_
       rotate_left; (rintro w' ⟨s0, s1, s2, s3, s4⟩; go_simp; with_reducible rfl); rotate_left; (simp only [Act.put, List.setIfInBounds_toArray, List.set_cons_zero, List.set_cons_succ, i64_w, i32_w]; rfl)
       refine take_ (i := 3) (N := some 21) (v := ?_) (a' := ?_) #[true, true, true, true, true, false, false, false, false] rfl rfl (take_ofW HT_.out HW_.out (by kernel_rfl)) (fun _ _ _ h => h) (Or.inl ⟨by rfl, ?_⟩) hHeld ?_ ?_
       rotate_left; (rintro w' ⟨s0, s1, s2, s3, s4⟩; go_simp; with_reducible rfl); rotate_left; (simp only [Act.put, List.setIfInBounds_toArray, List.set_cons_zero, List.set_cons_succ, i64_w, i32_w]; rfl)
       refine one_ (i := 5) (N := some 23) #[true, true, true, true, true, true, false, false, false] rfl rfl (one_of HT_.out (by kernel_rfl)) (by decide) (fun K hK => ?_)
       refine goes_ Try.func104 (by kernel_rfl) rfl #[.agg #[.int .i64 ((rd_T28 l0 x14_1).f0), .int .i64 ((rd_T28 l0 x14_1).f1), .int .i64 ((rd_T28 l0 x14_1).f2), .int .i64 ((rd_T28 l0 x14_1).f3), .int .i64 ((rd_T28 l0 x14_1).f4)], .int .i64 a1] (by rfl) rfl rfl (by (try simp only [List.map_toArray, List.map_cons, List.map_nil]); first | done | rfl | (simp only [List.length_drop, List.length_take]; rfl)) ?_
       with_reducible refine (demand_many.calls ((rd_T28 l0 x14_1).f0) ((rd_T28 l0 x14_1).f1) ((rd_T28 l0 x14_1).f2) ((rd_T28 l0 x14_1).f3) ((rd_T28 l0 x14_1).f4) a1 t126 _ A9.out).mono ?_
       rintro e w14 ⟨rfl, hb⟩
       refine ⟨_, rfl, ?_⟩
       have n0_ := Aside0.mk (blk_below (g := gb125) (o := .cells #[.int .i64 ((rd_T28 l0 x14_1).f0), .int .i64 ((rd_T28 l0 x14_1).f1), .int .i64 ((rd_T28 l0 x14_1).f2), .int .i64 ((rd_T28 l0 x14_1).f3), .int .i64 ((rd_T28 l0 x14_1).f4)] 28 (0, 0)) (by (with_reducible repeat (first | refine blk_drewN ?_ _ | refine blk_drew ?_ | refine blk_alloc ?_ _)); exact BK125.out) hb)
       have n1_ := Aside0.mk (below_step (by repeat (first | (with_reducible first | exact HB.out | apply below_alloc | apply pw_below_drewN | apply below_drew1 | refine below_set ?_ GE125.out) | exact HB.out)) hb)
       clear BK125
       clear HB
       have BK125 := n0_
       have HB := n1_
       clear n0_ n1_
       (try clear hb)
       (try clear hb2)
       (try clear hk)
       (try clear hi)
       refine hK.out _ _ ⟨(blk_cell BK125.out 0).trans rfl, (blk_cell BK125.out 1).trans rfl, (blk_cell BK125.out 2).trans rfl, (blk_cell BK125.out 3).trans rfl, (blk_cell BK125.out 4).trans rfl⟩ (fun hHeld => ?_)
       clear hK K
       refine norm_ (a' := ?_) ?_ ?_
       rotate_left; (show Act.put _ (some 23) _ = _; simp only [Act.put, List.setIfInBounds_toArray, List.set_cons_zero, List.set_cons_succ, i64_w, i32_w]; rfl)
       refine pure_ (i := 6) (N := some 24) (v := ?_) (a' := ?_) #[true, true, true, true, true, true, true, false, false] rfl rfl (any_of HT_.out (by kernel_rfl)) (fun _ _ _ h => h) (Or.inl ⟨by rfl, ?_⟩) ?_ ?_
       rotate_left; (intro w'; go_simp; with_reducible rfl); rotate_left; (simp only [Act.put, List.setIfInBounds_toArray, List.set_cons_zero, List.set_cons_succ, i64_w, i32_w]; rfl)
       refine pure_ (i := 7) (N := some 25) (v := ?_) (a' := ?_) #[true, true, true, true, true, true, true, true, false] rfl rfl (any_of HT_.out (by kernel_rfl)) (fun _ _ _ h => h) (Or.inl ⟨by rfl, ?_⟩) ?_ ?_
       rotate_left; (intro w'; go_simp; with_reducible rfl); rotate_left; (simp only [Act.put, List.setIfInBounds_toArray, List.set_cons_zero, List.set_cons_succ, i64_w, i32_w]; rfl)
       refine pure_ (i := 8) (N := some 5) (v := ?_) (a' := ?_) #[true, true, true, true, true, true, true, true, true] rfl rfl (any_of HT_.out (by kernel_rfl)) (fun _ _ _ h => h) (Or.inl ⟨by rfl, ?_⟩) ?_ ?_
       rotate_left; (intro w'; go_simp; with_reducible rfl); rotate_left; (simp only [Act.put, List.setIfInBounds_toArray, List.set_cons_zero, List.set_cons_succ, i64_w, i32_w]; rfl)
       refine done_ (done_of HT_.out (by kernel_rfl)) ?_
       try go_wp2
       go_roundg k1
       case measure => have := HK1.out; omega
       case rel => exact ⟨(wrap64 (x5_1 + (wrap64 (((rd_T28 l0 x14_1).f1) * t126)))), (wrap64 (x14_1 + 1)), (by first | rfl | (simp; done) | (simp [*]; done)), (by first | rfl | (simp; done) | (simp [*]; done)), H', ⟨by have := HK1.out; omega⟩, ⟨by repeat (first | (with_reducible first | exact HB.out | apply below_alloc | apply pw_below_drewN | apply below_drew1 | refine below_set ?_ GE125.out) | exact HB.out)⟩⟩
      ·rw [if_neg c8] at H
       exact absurd H (by simp)
     ·rw [if_neg c7] at H
      exact absurd H (by simp)
    ·rw [if_neg c6] at H
     have c6b0 : decide (x14_1 < (l0.length : Int)) = false := decide_eq_false c6
     clear c6
     obtain rfl := Option.some.inj H
     go_wp2
     go_ret
     exact ⟨by first | rfl | (simp [errW_none, errW_some] <;> rfl) | (simp [*, errW_none, errW_some] <;> rfl), by repeat (first | (with_reducible first | exact HB.out | apply below_alloc | apply pw_below_drewN | apply below_drew1) | exact HB.out)⟩
 ·replace c4 := Bool.eq_false_iff.mpr c4
  subst c4
  have H1 : (some 0) = some r := by rw [if_neg (show ¬ (false = true) by decide)] at H; exact H
  clear H
  have H := H1
  clear H1
  obtain rfl := Option.some.inj H
  go_enter Try.func84, Try.ntmps84
  go_wp2_with (first | ((with_reducible refine gate_callee (f := 103) rfl ?_); refine goesL_ (some 10) rfl rfl Try.func103 (by kernel_rfl) rfl #[.slice A0 l0.length c0, .int .i64 a1] rfl (by (try simp only [List.map_toArray, List.map_cons, List.map_nil]); first | done | rfl | (simp only [List.length_drop, List.length_take]; rfl)) ?_; (with_reducible refine (demand_may.calls _ _ l0 a1 false _ ?side1 ?side2 A3.out).mono ?_); (case side1 => repeat (first | exact HR0.out | (with_reducible refine Kd.C_alloc ?_ _) | (with_reducible refine Kd.C_drewN ?_ _) | (with_reducible refine Kd.C_drew ?_))); (case side2 => exact HC0.out); rintro e w15 ⟨rfl, hb⟩; refine ⟨_, rfl, ?_⟩; have n0_ := Aside0.mk (below_step (by repeat (first | (with_reducible first | exact HB.out | apply below_alloc | apply pw_below_drewN | apply below_drew1) | exact HB.out)) hb); clear HB; have HB := n0_; clear n0_; (try clear hb); (try clear hb2); (try clear hk); (try clear hi)))
  go_ret
  exact ⟨by first | rfl | (simp [errW_none, errW_some] <;> rfl) | (simp [*, errW_none, errW_some] <;> rfl), by repeat (first | (with_reducible first | exact HB.out | apply below_alloc | apply pw_below_drewN | apply below_drew1) | exact HB.out)⟩

/-! ### demand_Before: function 117 -/
def demand_Before.l0 : Nat → Int → Int → List (S28) → Int → Int → Option (Int × Bool)
 | 0, _, _, _, _, _ => none
 | k + 1, x1, x6, x14, x15, x16 => if x16 < x15 then (if 0 ≤ x16 then (if x16 < (x14.length : Int) then ((demand_many.f ((rd_T28 x14 x16).f0) ((rd_T28 x14 x16).f1) ((rd_T28 x14 x16).f2) ((rd_T28 x14 x16).f3) ((rd_T28 x14 x16).f4) (wrap64 (x1 - 1))).bind fun t130 => (if t130 > 0 then (demand_Before.l0 k x1 (mx x6 (wrap64 (((rd_T28 x14 x16).f2) + (wrap64 (((rd_T28 x14 x16).f3) * (wrap64 (t130 - 1))))))) x14 x15 (wrap64 (x16 + 1))) else (demand_Before.l0 k x1 x6 x14 x15 (wrap64 (x16 + 1))))) else (none)) else (none)) else (some (x6, decide (x6 > 0)))
def demand_Before.f (k : Nat) (l0 : List (S28)) (a1 : Int) : Option (Int × Bool) := (demand_may.f l0 a1).bind fun t127 => (if t127 = true then (demand_Before.l0 k a1 0 l0 (l0.length : Int) 0) else (some (0, false)))
theorem demand_Before.mono_l : ∀ k, (∀ y0 y1 y2 y3 y4, LeO (demand_Before.l0 k y0 y1 y2 y3 y4) (demand_Before.l0 (k + 1) y0 y1 y2 y3 y4))
 | 0 => fun _ _ _ _ _ r h => by simp [demand_Before.l0] at h
 | k + 1 => by
  have ih0 := demand_Before.mono_l k
  ·intro y0 y1 y2 y3 y4
   unfold demand_Before.l0
   repeat' first
   | (with_reducible exact ih0 _ _ _ _ _)
   | (with_reducible exact LeO.refl _)
   | (with_reducible exact LeO.none _)
   | (with_reducible refine LeO.ite ?_ ?_)
   | (with_reducible refine LeO.bind ?_ (fun _ => ?_))
   | exact ih0 _ _ _ _ _
   | exact LeO.none _
   | refine LeO.ite ?_ ?_
   | refine LeO.bind ?_ (fun _ => ?_)
theorem demand_Before.mono : ∀ a0 a1 k, LeO (demand_Before.f k a0 a1) (demand_Before.f (k + 1) a0 a1) := by
 intro a0 a1 k
 have ih0 := demand_Before.mono_l k
 unfold demand_Before.f
 repeat' first
   | (with_reducible exact ih0 _ _ _ _ _)
   | (with_reducible exact LeO.refl _)
   | (with_reducible exact LeO.none _)
   | (with_reducible refine LeO.ite ?_ ?_)
   | (with_reducible refine LeO.bind ?_ (fun _ => ?_))
   | exact ih0 _ _ _ _ _
   | exact LeO.none _
   | refine LeO.ite ?_ ?_
   | refine LeO.bind ?_ (fun _ => ?_)
set_option maxHeartbeats 8000000 in
set_option maxRecDepth 100000 in
theorem demand_Before.calls (k : Nat) (A0 : Option Addr) (c0 : Nat) (l0 : List (S28)) (a1 : Int) (r1 : Int) (r2 : Bool) (w : World) (hr0 : Kd.C k28 w A0 l0.length l0) (hc0 : l0.length ≤ c0) (h : demand_Before.f k l0 a1 = some (r1, r2)) :
  Calls Try.prog 117 #[.slice A0 l0.length c0, .int .i64 a1] w fun e w' => e = .returned (.tuple #[.int .i64 r1, .bool r2]) ∧ Below w.heap.size w w' := by
 have hu28 := Try.underlying28
 have HR0 := Aside0.mk hr0
 have HC0 := Aside0.mk hc0
 clear hr0 hc0
 have HB := Aside0.mk (Below.refl w.heap.size w)
 have H : ((demand_may.f l0 a1).bind fun t127 => (if t127 = true then (demand_Before.l0 k a1 0 l0 (l0.length : Int) 0) else (some (0, false)))) = some (r1, r2) := h
 clear h
 replace H := Option.bind_eq_some_iff.mp H
 obtain ⟨t127, A30, H⟩ := H
 replace H : (if t127 = true then (demand_Before.l0 k a1 0 l0 (l0.length : Int) 0) else (some (0, false))) = some (r1, r2) := H
 have A3 := Aside0.mk A30
 clear A30
 by_cases c4 : t127 = true
 ·subst c4
  have H1 : (demand_Before.l0 k a1 0 l0 (l0.length : Int) 0) = some (r1, r2) := by rw [if_pos rfl] at H; exact H
  clear H
  have H := H1
  clear H1
  have H' := Aside0.mk H
  clear H
  go_enter Try.func117, Try.ntmps117
  go_wp2_with (first | ((with_reducible refine gate_callee (f := 103) rfl ?_); refine goesL_ (some 12) rfl rfl Try.func103 (by kernel_rfl) rfl #[.slice A0 l0.length c0, .int .i64 a1] rfl (by (try simp only [List.map_toArray, List.map_cons, List.map_nil]); first | done | rfl | (simp only [List.length_drop, List.length_take]; rfl)) ?_; (with_reducible refine (demand_may.calls _ _ l0 a1 true _ ?side1 ?side2 A3.out).mono ?_); (case side1 => repeat (first | exact HR0.out | (with_reducible refine Kd.C_alloc ?_ _) | (with_reducible refine Kd.C_drewN ?_ _) | (with_reducible refine Kd.C_drew ?_))); (case side2 => exact HC0.out); rintro e w5 ⟨rfl, hb⟩; refine ⟨_, rfl, ?_⟩; have n0_ := Aside0.mk (below_step (by repeat (first | (with_reducible first | exact HB.out | apply below_alloc | apply pw_below_drewN | apply below_drew1) | exact HB.out)) hb); clear HB; have HB := n0_; clear n0_; (try clear hb); (try clear hb2); (try clear hk); (try clear hi)))
  go_loopg [6, 16] k (fun kq v6 v16 w' => ∃ (x6_1 : Int) (x16_1 : Int), v6 = .int .i64 x6_1 ∧ v16 = .int .i64 x16_1 ∧ Aside0 (demand_Before.l0 kq a1 x6_1 l0 (l0.length : Int) x16_1 = some (r1, r2)) ∧ Aside0 (kq ≤ k) ∧ Aside0 (Below w.heap.size w w'))
  case atStart => exact ⟨(0), (0), (by first | rfl | (simp; done) | (simp [*]; done)), (by first | rfl | (simp; done) | (simp [*]; done)), H', ⟨Nat.le_refl _⟩, ⟨by repeat (first | (with_reducible first | exact HB.out | apply below_alloc | apply pw_below_drewN | apply below_drew1) | exact HB.out)⟩⟩
  case round =>
   clear H'
   try clear c1
   try clear p2
   try clear c4
   obtain ⟨x6_1, x16_1, rfl, rfl, HA, HK1, HB⟩ := hrel
   cases gk with
   | zero => exact absurd HA.out (by simp [demand_Before.l0])
   | succ k1 =>
    have H := HA.out
    clear HA
    simp only [demand_Before.l0] at H
    by_cases c6 : x16_1 < (l0.length : Int)
    ·rw [if_pos c6] at H
     have c6b0 : decide (x16_1 < (l0.length : Int)) = true := decide_eq_true c6
     clear c6
     by_cases c7 : 0 ≤ x16_1
     ·rw [if_pos c7] at H
      have c7b0 : decide (0 ≤ x16_1) = true := decide_eq_true c7
      clear c7
      by_cases c8 : x16_1 < (l0.length : Int)
      ·rw [if_pos c8] at H
       have c8b0 : decide (x16_1 < (l0.length : Int)) = true := decide_eq_true c8
       clear c8
       replace H := Option.bind_eq_some_iff.mp H
       obtain ⟨t130, A90, H⟩ := H
       replace H : (if t130 > 0 then (demand_Before.l0 k1 a1 (mx x6_1 (wrap64 (((rd_T28 l0 x16_1).f2) + (wrap64 (((rd_T28 l0 x16_1).f3) * (wrap64 (t130 - 1))))))) l0 (l0.length : Int) (wrap64 (x16_1 + 1))) else (demand_Before.l0 k1 a1 x6_1 l0 (l0.length : Int) (wrap64 (x16_1 + 1)))) = some (r1, r2) := H
       have A9 := Aside0.mk A90
       clear A90
       by_cases c10 : t130 > 0
       ·rw [if_pos c10] at H
        have c10b0 : decide (0 < t130) = true := decide_eq_true c10
        clear c10
        obtain ⟨ji11, hji11⟩ : ∃ j_ : Int, (mx x6_1 (wrap64 (((rd_T28 l0 x16_1).f2) + (wrap64 (((rd_T28 l0 x16_1).f3) * (wrap64 (t130 - 1))))))) = j_ := ⟨_, rfl⟩
        replace H : (demand_Before.l0 k1 a1 ji11 l0 (l0.length : Int) (wrap64 (x16_1 + 1))) = some (r1, r2) := by first | (rw [hji11] at H; exact H) | (simp only [hji11] at H ⊢; exact H)
        (try rw [hji11] at A9)
        have hji11_ : (if x6_1 < (wrap64 (((rd_T28 l0 x16_1).f2) + (wrap64 (((rd_T28 l0 x16_1).f3) * (wrap64 (t130 - 1)))))) then (wrap64 (((rd_T28 l0 x16_1).f2) + (wrap64 (((rd_T28 l0 x16_1).f3) * (wrap64 (t130 - 1)))))) else x6_1) = ji11 := hji11
        have H' := Aside0.mk H
        clear H
        have p128 : 0 ≤ (x16_1 : Int) := of_decide_eq_true (by first | (with_reducible assumption) | assumption)
        have q128 : x16_1 < (l0.length : Int) := of_decide_eq_true (by first | (with_reducible assumption) | assumption)
        obtain ⟨ad128, e128, hx128_0, hx128_1, hx128_2, hx128_3, hx128_4⟩ := at_T28 HR0.out x16_1 p128 q128
        cases e128
        replace hx128_0 := (HB.out.cell (World.block_lt_of_cell? w _ hx128_0)).trans hx128_0
        replace hx128_1 := (HB.out.cell (World.block_lt_of_cell? w _ hx128_1)).trans hx128_1
        replace hx128_2 := (HB.out.cell (World.block_lt_of_cell? w _ hx128_2)).trans hx128_2
        replace hx128_3 := (HB.out.cell (World.block_lt_of_cell? w _ hx128_3)).trans hx128_3
        replace hx128_4 := (HB.out.cell (World.block_lt_of_cell? w _ hx128_4)).trans hx128_4
        replace p128 := eq_true p128
        replace q128 := eq_true q128
        go_wp2_with (first | ((with_reducible refine gate_dst (N := 8) rfl ?_); refine box_event ?hg (N := 8) ?hd (cs := #[.int .i64 0, .int .i64 0, .int .i64 0, .int .i64 0, .int .i64 0]) (t := 28) ?hr ?_; (case hd => rfl); (case hg => rfl); (case hr => first | (go_simp; done) | (go_simp; rfl)); intro gb129 hg w12 hbox hb; have n0_ := Aside0.mk (below_step (by repeat (first | (with_reducible first | exact HB.out | apply below_alloc | apply pw_below_drewN | apply below_drew1) | exact HB.out)) hb); have n1_ := Aside0.mk (hbox); have n2_ := Aside0.mk ((by rw [hg]; exact (below_size (by repeat (first | (with_reducible first | exact HB.out | apply below_alloc | apply pw_below_drewN | apply below_drew1) | exact HB.out))) : w.heap.size ≤ gb129)); have n3_ := Aside0.mk ((by rw [hg]; exact (below_size (by repeat (first | (with_reducible first | exact HB.out | apply below_alloc | apply pw_below_drewN | apply below_drew1) | exact HB.out))) : w.heap.size ≤ gb129)); clear HB; have HB := n0_; have BK129 := n1_; have GW129 := n2_; have GE129 := n3_; clear n0_ n1_ n2_ n3_; clear hb hbox hg; have hcz13_0 : w12.cell? ⟨gb129, 0, none⟩ = some (.int .i64 0) := (blk_cell BK129.out 0).trans rfl; have hcz13_1 : w12.cell? ⟨gb129, 1, none⟩ = some (.int .i64 0) := (blk_cell BK129.out 1).trans rfl; have hcz13_2 : w12.cell? ⟨gb129, 2, none⟩ = some (.int .i64 0) := (blk_cell BK129.out 2).trans rfl; have hcz13_3 : w12.cell? ⟨gb129, 3, none⟩ = some (.int .i64 0) := (blk_cell BK129.out 3).trans rfl; have hcz13_4 : w12.cell? ⟨gb129, 4, none⟩ = some (.int .i64 0) := (blk_cell BK129.out 4).trans rfl; have hfz13_0 := blk_frozen BK129.out 0; have hfz13_1 := blk_frozen BK129.out 1; have hfz13_2 := blk_frozen BK129.out 2; have hfz13_3 := blk_frozen BK129.out 3; have hfz13_4 := blk_frozen BK129.out 4) | ((with_reducible refine gate_callee (f := 104) rfl ?_); refine goesL_ (some 23) rfl rfl Try.func104 (by kernel_rfl) rfl #[.agg #[.int .i64 ((rd_T28 l0 x16_1).f0), .int .i64 ((rd_T28 l0 x16_1).f1), .int .i64 ((rd_T28 l0 x16_1).f2), .int .i64 ((rd_T28 l0 x16_1).f3), .int .i64 ((rd_T28 l0 x16_1).f4)], .int .i64 (wrap64 (a1 - 1))] rfl (by (try simp only [List.map_toArray, List.map_cons, List.map_nil]); first | done | rfl | (simp only [List.length_drop, List.length_take]; rfl)) ?_; (with_reducible refine (demand_many.calls ((rd_T28 l0 x16_1).f0) ((rd_T28 l0 x16_1).f1) ((rd_T28 l0 x16_1).f2) ((rd_T28 l0 x16_1).f3) ((rd_T28 l0 x16_1).f4) (wrap64 (a1 - 1)) t130 _ A9.out).mono ?_); rintro e w14 ⟨rfl, hb⟩; refine ⟨_, rfl, ?_⟩; have n0_ := Aside0.mk (blk_below (g := gb129) (o := .cells #[.int .i64 ((rd_T28 l0 x16_1).f0), .int .i64 ((rd_T28 l0 x16_1).f1), .int .i64 ((rd_T28 l0 x16_1).f2), .int .i64 ((rd_T28 l0 x16_1).f3), .int .i64 ((rd_T28 l0 x16_1).f4)] 28 (0, 0)) (by (with_reducible repeat (first | refine blk_drewN ?_ _ | refine blk_drew ?_ | refine blk_alloc ?_ _)); refine blk_put (cs := #[.int .i64 ((rd_T28 l0 x16_1).f0), .int .i64 ((rd_T28 l0 x16_1).f1), .int .i64 ((rd_T28 l0 x16_1).f2), .int .i64 ((rd_T28 l0 x16_1).f3), .int .i64 0]) ?_ 4 _ rfl; (with_reducible repeat (first | refine blk_drewN ?_ _ | refine blk_drew ?_ | refine blk_alloc ?_ _)); refine blk_put (cs := #[.int .i64 ((rd_T28 l0 x16_1).f0), .int .i64 ((rd_T28 l0 x16_1).f1), .int .i64 ((rd_T28 l0 x16_1).f2), .int .i64 0, .int .i64 0]) ?_ 3 _ rfl; (with_reducible repeat (first | refine blk_drewN ?_ _ | refine blk_drew ?_ | refine blk_alloc ?_ _)); refine blk_put (cs := #[.int .i64 ((rd_T28 l0 x16_1).f0), .int .i64 ((rd_T28 l0 x16_1).f1), .int .i64 0, .int .i64 0, .int .i64 0]) ?_ 2 _ rfl; (with_reducible repeat (first | refine blk_drewN ?_ _ | refine blk_drew ?_ | refine blk_alloc ?_ _)); refine blk_put (cs := #[.int .i64 ((rd_T28 l0 x16_1).f0), .int .i64 0, .int .i64 0, .int .i64 0, .int .i64 0]) ?_ 1 _ rfl; (with_reducible repeat (first | refine blk_drewN ?_ _ | refine blk_drew ?_ | refine blk_alloc ?_ _)); refine blk_put (cs := #[.int .i64 0, .int .i64 0, .int .i64 0, .int .i64 0, .int .i64 0]) ?_ 0 _ rfl; (with_reducible repeat (first | refine blk_drewN ?_ _ | refine blk_drew ?_ | refine blk_alloc ?_ _)); exact BK129.out) hb); have n1_ := Aside0.mk (below_step (by repeat (first | (with_reducible first | exact HB.out | apply below_alloc | apply pw_below_drewN | apply below_drew1 | refine below_set ?_ GE129.out) | exact HB.out)) hb); clear BK129; clear HB; have BK129 := n0_; have HB := n1_; clear n0_ n1_; (try clear hb); (try clear hb2); (try clear hk); (try clear hi); have hcz15_0 : w14.cell? ⟨gb129, 0, none⟩ = some (.int .i64 ((rd_T28 l0 x16_1).f0)) := (blk_cell BK129.out 0).trans rfl; have hcz15_1 : w14.cell? ⟨gb129, 1, none⟩ = some (.int .i64 ((rd_T28 l0 x16_1).f1)) := (blk_cell BK129.out 1).trans rfl; have hcz15_2 : w14.cell? ⟨gb129, 2, none⟩ = some (.int .i64 ((rd_T28 l0 x16_1).f2)) := (blk_cell BK129.out 2).trans rfl; have hcz15_3 : w14.cell? ⟨gb129, 3, none⟩ = some (.int .i64 ((rd_T28 l0 x16_1).f3)) := (blk_cell BK129.out 3).trans rfl; have hcz15_4 : w14.cell? ⟨gb129, 4, none⟩ = some (.int .i64 ((rd_T28 l0 x16_1).f4)) := (blk_cell BK129.out 4).trans rfl; have hfz15_0 := blk_frozen BK129.out 0; have hfz15_1 := blk_frozen BK129.out 1; have hfz15_2 := blk_frozen BK129.out 2; have hfz15_3 := blk_frozen BK129.out 3; have hfz15_4 := blk_frozen BK129.out 4))
        go_roundg k1
        case measure => have := HK1.out; omega
        case rel => exact ⟨(ji11), (wrap64 (x16_1 + 1)), (by first | rfl | (simp; done) | (simp only [← hji11] <;> (first | rfl | simp)) | (simp [*]; done)), (by first | rfl | (simp; done) | (simp [*]; done)), H', ⟨by have := HK1.out; omega⟩, ⟨by repeat (first | (with_reducible first | exact HB.out | apply below_alloc | apply pw_below_drewN | apply below_drew1 | refine below_set ?_ GE129.out) | exact HB.out)⟩⟩
       ·rw [if_neg c10] at H
        have c10b0 : decide (0 < t130) = false := decide_eq_false c10
        clear c10
        have H' := Aside0.mk H
        clear H
        have p128 : 0 ≤ (x16_1 : Int) := of_decide_eq_true (by first | (with_reducible assumption) | assumption)
        have q128 : x16_1 < (l0.length : Int) := of_decide_eq_true (by first | (with_reducible assumption) | assumption)
        obtain ⟨ad128, e128, hx128_0, hx128_1, hx128_2, hx128_3, hx128_4⟩ := at_T28 HR0.out x16_1 p128 q128
        cases e128
        replace hx128_0 := (HB.out.cell (World.block_lt_of_cell? w _ hx128_0)).trans hx128_0
        replace hx128_1 := (HB.out.cell (World.block_lt_of_cell? w _ hx128_1)).trans hx128_1
        replace hx128_2 := (HB.out.cell (World.block_lt_of_cell? w _ hx128_2)).trans hx128_2
        replace hx128_3 := (HB.out.cell (World.block_lt_of_cell? w _ hx128_3)).trans hx128_3
        replace hx128_4 := (HB.out.cell (World.block_lt_of_cell? w _ hx128_4)).trans hx128_4
        replace p128 := eq_true p128
        replace q128 := eq_true q128
        go_wp2_with (first | ((with_reducible refine gate_dst (N := 8) rfl ?_); refine box_event ?hg (N := 8) ?hd (cs := #[.int .i64 0, .int .i64 0, .int .i64 0, .int .i64 0, .int .i64 0]) (t := 28) ?hr ?_; (case hd => rfl); (case hg => rfl); (case hr => first | (go_simp; done) | (go_simp; rfl)); intro gb129 hg w16 hbox hb; have n0_ := Aside0.mk (below_step (by repeat (first | (with_reducible first | exact HB.out | apply below_alloc | apply pw_below_drewN | apply below_drew1) | exact HB.out)) hb); have n1_ := Aside0.mk (hbox); have n2_ := Aside0.mk ((by rw [hg]; exact (below_size (by repeat (first | (with_reducible first | exact HB.out | apply below_alloc | apply pw_below_drewN | apply below_drew1) | exact HB.out))) : w.heap.size ≤ gb129)); have n3_ := Aside0.mk ((by rw [hg]; exact (below_size (by repeat (first | (with_reducible first | exact HB.out | apply below_alloc | apply pw_below_drewN | apply below_drew1) | exact HB.out))) : w.heap.size ≤ gb129)); clear HB; have HB := n0_; have BK129 := n1_; have GW129 := n2_; have GE129 := n3_; clear n0_ n1_ n2_ n3_; clear hb hbox hg; have hcz17_0 : w16.cell? ⟨gb129, 0, none⟩ = some (.int .i64 0) := (blk_cell BK129.out 0).trans rfl; have hcz17_1 : w16.cell? ⟨gb129, 1, none⟩ = some (.int .i64 0) := (blk_cell BK129.out 1).trans rfl; have hcz17_2 : w16.cell? ⟨gb129, 2, none⟩ = some (.int .i64 0) := (blk_cell BK129.out 2).trans rfl; have hcz17_3 : w16.cell? ⟨gb129, 3, none⟩ = some (.int .i64 0) := (blk_cell BK129.out 3).trans rfl; have hcz17_4 : w16.cell? ⟨gb129, 4, none⟩ = some (.int .i64 0) := (blk_cell BK129.out 4).trans rfl; have hfz17_0 := blk_frozen BK129.out 0; have hfz17_1 := blk_frozen BK129.out 1; have hfz17_2 := blk_frozen BK129.out 2; have hfz17_3 := blk_frozen BK129.out 3; have hfz17_4 := blk_frozen BK129.out 4) | ((with_reducible refine gate_callee (f := 104) rfl ?_); refine goesL_ (some 23) rfl rfl Try.func104 (by kernel_rfl) rfl #[.agg #[.int .i64 ((rd_T28 l0 x16_1).f0), .int .i64 ((rd_T28 l0 x16_1).f1), .int .i64 ((rd_T28 l0 x16_1).f2), .int .i64 ((rd_T28 l0 x16_1).f3), .int .i64 ((rd_T28 l0 x16_1).f4)], .int .i64 (wrap64 (a1 - 1))] rfl (by (try simp only [List.map_toArray, List.map_cons, List.map_nil]); first | done | rfl | (simp only [List.length_drop, List.length_take]; rfl)) ?_; (with_reducible refine (demand_many.calls ((rd_T28 l0 x16_1).f0) ((rd_T28 l0 x16_1).f1) ((rd_T28 l0 x16_1).f2) ((rd_T28 l0 x16_1).f3) ((rd_T28 l0 x16_1).f4) (wrap64 (a1 - 1)) t130 _ A9.out).mono ?_); rintro e w18 ⟨rfl, hb⟩; refine ⟨_, rfl, ?_⟩; have n0_ := Aside0.mk (blk_below (g := gb129) (o := .cells #[.int .i64 ((rd_T28 l0 x16_1).f0), .int .i64 ((rd_T28 l0 x16_1).f1), .int .i64 ((rd_T28 l0 x16_1).f2), .int .i64 ((rd_T28 l0 x16_1).f3), .int .i64 ((rd_T28 l0 x16_1).f4)] 28 (0, 0)) (by (with_reducible repeat (first | refine blk_drewN ?_ _ | refine blk_drew ?_ | refine blk_alloc ?_ _)); refine blk_put (cs := #[.int .i64 ((rd_T28 l0 x16_1).f0), .int .i64 ((rd_T28 l0 x16_1).f1), .int .i64 ((rd_T28 l0 x16_1).f2), .int .i64 ((rd_T28 l0 x16_1).f3), .int .i64 0]) ?_ 4 _ rfl; (with_reducible repeat (first | refine blk_drewN ?_ _ | refine blk_drew ?_ | refine blk_alloc ?_ _)); refine blk_put (cs := #[.int .i64 ((rd_T28 l0 x16_1).f0), .int .i64 ((rd_T28 l0 x16_1).f1), .int .i64 ((rd_T28 l0 x16_1).f2), .int .i64 0, .int .i64 0]) ?_ 3 _ rfl; (with_reducible repeat (first | refine blk_drewN ?_ _ | refine blk_drew ?_ | refine blk_alloc ?_ _)); refine blk_put (cs := #[.int .i64 ((rd_T28 l0 x16_1).f0), .int .i64 ((rd_T28 l0 x16_1).f1), .int .i64 0, .int .i64 0, .int .i64 0]) ?_ 2 _ rfl; (with_reducible repeat (first | refine blk_drewN ?_ _ | refine blk_drew ?_ | refine blk_alloc ?_ _)); refine blk_put (cs := #[.int .i64 ((rd_T28 l0 x16_1).f0), .int .i64 0, .int .i64 0, .int .i64 0, .int .i64 0]) ?_ 1 _ rfl; (with_reducible repeat (first | refine blk_drewN ?_ _ | refine blk_drew ?_ | refine blk_alloc ?_ _)); refine blk_put (cs := #[.int .i64 0, .int .i64 0, .int .i64 0, .int .i64 0, .int .i64 0]) ?_ 0 _ rfl; (with_reducible repeat (first | refine blk_drewN ?_ _ | refine blk_drew ?_ | refine blk_alloc ?_ _)); exact BK129.out) hb); have n1_ := Aside0.mk (below_step (by repeat (first | (with_reducible first | exact HB.out | apply below_alloc | apply pw_below_drewN | apply below_drew1 | refine below_set ?_ GE129.out) | exact HB.out)) hb); clear BK129; clear HB; have BK129 := n0_; have HB := n1_; clear n0_ n1_; (try clear hb); (try clear hb2); (try clear hk); (try clear hi)))
        go_roundg k1
        case measure => have := HK1.out; omega
        case rel => exact ⟨(x6_1), (wrap64 (x16_1 + 1)), (by first | rfl | (simp; done) | (simp [*]; done)), (by first | rfl | (simp; done) | (simp [*]; done)), H', ⟨by have := HK1.out; omega⟩, ⟨by repeat (first | (with_reducible first | exact HB.out | apply below_alloc | apply pw_below_drewN | apply below_drew1 | refine below_set ?_ GE129.out) | exact HB.out)⟩⟩
      ·rw [if_neg c8] at H
       exact absurd H (by simp)
     ·rw [if_neg c7] at H
      exact absurd H (by simp)
    ·rw [if_neg c6] at H
     have c6b0 : decide (x16_1 < (l0.length : Int)) = false := decide_eq_false c6
     clear c6
     simp only [Option.some.injEq, Prod.mk.injEq] at H
     obtain ⟨rfl, rfl⟩ := H
     go_wp2
     go_ret2
     exact ⟨by first | rfl | (simp [errW_none, errW_some] <;> rfl) | (simp [*, errW_none, errW_some] <;> rfl), by repeat (first | (with_reducible first | exact HB.out | apply below_alloc | apply pw_below_drewN | apply below_drew1) | exact HB.out)⟩
 ·replace c4 := Bool.eq_false_iff.mpr c4
  subst c4
  have H1 : (some (0, false)) = some (r1, r2) := by rw [if_neg (show ¬ (false = true) by decide)] at H; exact H
  clear H
  have H := H1
  clear H1
  simp only [Option.some.injEq, Prod.mk.injEq] at H
  obtain ⟨rfl, rfl⟩ := H
  go_enter Try.func117, Try.ntmps117
  go_wp2_with (first | ((with_reducible refine gate_callee (f := 103) rfl ?_); refine goesL_ (some 12) rfl rfl Try.func103 (by kernel_rfl) rfl #[.slice A0 l0.length c0, .int .i64 a1] rfl (by (try simp only [List.map_toArray, List.map_cons, List.map_nil]); first | done | rfl | (simp only [List.length_drop, List.length_take]; rfl)) ?_; (with_reducible refine (demand_may.calls _ _ l0 a1 false _ ?side1 ?side2 A3.out).mono ?_); (case side1 => repeat (first | exact HR0.out | (with_reducible refine Kd.C_alloc ?_ _) | (with_reducible refine Kd.C_drewN ?_ _) | (with_reducible refine Kd.C_drew ?_))); (case side2 => exact HC0.out); rintro e w19 ⟨rfl, hb⟩; refine ⟨_, rfl, ?_⟩; have n0_ := Aside0.mk (below_step (by repeat (first | (with_reducible first | exact HB.out | apply below_alloc | apply pw_below_drewN | apply below_drew1) | exact HB.out)) hb); clear HB; have HB := n0_; clear n0_; (try clear hb); (try clear hb2); (try clear hk); (try clear hi)))
  go_ret2
  exact ⟨by first | rfl | (simp [errW_none, errW_some] <;> rfl) | (simp [*, errW_none, errW_some] <;> rfl), by repeat (first | (with_reducible first | exact HB.out | apply below_alloc | apply pw_below_drewN | apply below_drew1) | exact HB.out)⟩

end Go.Proofs.Ytmgmpifbhjoijaa.PProbeReports
