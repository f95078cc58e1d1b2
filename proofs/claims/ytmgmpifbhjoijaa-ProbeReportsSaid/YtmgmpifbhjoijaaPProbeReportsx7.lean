-- Made by px.py (a program of this session, over the kit's printer) out of the translation. Not trusted: Lean checks it.
import Derived.Test.YtmgmpifbhjoijaaPProbeReportsx0
import Derived.Test.YtmgmpifbhjoijaaPProbeReportsx2
import Derived.Test.YtmgmpifbhjoijaaPProbeReportsx3
import Derived.Test.YtmgmpifbhjoijaaPProbeReportsx4
import Derived.Test.YtmgmpifbhjoijaaPProbeReportsx5
import Derived.Test.YtmgmpifbhjoijaaPProbeReportsx6
namespace Go.Proofs.Ytmgmpifbhjoijaa.PProbeReports
open Go.RowKit Go.Proofs.YtmgmpifbhjoijaaW.PrintWords Go.Proofs.YtmgmpifbhjoijaaW.PrintLast Go.Proofs.YtmgmpifbhjoijaaW.PrintMore
attribute [local go_sem] max2_int min2_int max_two min_two max_three min_three max_four min_four   -- for this text's walks alone
set_option linter.unusedVariables false
set_option linter.unusedSimpArgs false

/-! ### demand_Next: function 83 -/
mutual
def demand_Next.j0 : Nat → List (S28) → Int → Bool → Option (Int × Bool)
  | 0, _, _, _ => none
  | k + 1, x0, x1, x18 => if x18 = true then (some (0, false)) else (demand_Next.l0 k x1 ([] : List Int) x0 (x0.length : Int) 0)
def demand_Next.l0 : Nat → Int → List Int → List (S28) → Int → Int → Option (Int × Bool)
  | 0, _, _, _, _, _ => none
  | k + 1, x1, x6, x19, x20, x21 => if x21 < x20 then (if 0 ≤ x21 then (if x21 < (x19.length : Int) then ((demand_many.f ((rd_T28 x19 x21).f0) ((rd_T28 x19 x21).f1) ((rd_T28 x19 x21).f2) ((rd_T28 x19 x21).f3) ((rd_T28 x19 x21).f4) x1).bind fun t138 => (if x6.length < 17592186044416 then (demand_Next.l0 k x1 (x6 ++ [wrap64 (((rd_T28 x19 x21).f2) + (wrap64 (((rd_T28 x19 x21).f3) * t138)))]) x19 x20 (wrap64 (x21 + 1))) else (none))) else (none)) else (none)) else ((demand_least.f k x6).bind fun t142 => (if t142 > 1099511627776 then (some (0, false)) else (some (t142, true))))
end
def demand_Next.f (k : Nat) (l0 : List (S28)) (a1 : Int) : Option (Int × Bool) := (demand_may.f l0 a1).bind fun t135 => (if t135 = true then (demand_Next.j0 k l0 a1 ((l0.length : Int) == 0)) else (demand_Next.j0 k l0 a1 true))
theorem demand_Next.mono_l : ∀ k, (∀ y0 y1 y2, LeO (demand_Next.j0 k y0 y1 y2) (demand_Next.j0 (k + 1) y0 y1 y2)) ∧ (∀ y0 y1 y2 y3 y4, LeO (demand_Next.l0 k y0 y1 y2 y3 y4) (demand_Next.l0 (k + 1) y0 y1 y2 y3 y4))
  | 0 => ⟨fun _ _ _ r h => by simp [demand_Next.j0] at h, fun _ _ _ _ _ r h => by simp [demand_Next.l0] at h⟩
  | k + 1 => by
    obtain ⟨ih0, ih1⟩ := demand_Next.mono_l k
    refine ⟨?_, ?_⟩
    · intro y0 y1 y2
      unfold demand_Next.j0
      repeat' first
      | (with_reducible exact ih0 _ _ _)
      | (with_reducible exact ih1 _ _ _ _ _)
      | (with_reducible exact demand_least.mono _ _)
      | (with_reducible exact LeO.refl _)
      | (with_reducible exact LeO.none _)
      | (with_reducible refine LeO.ite ?_ ?_)
      | (with_reducible refine LeO.bind ?_ (fun _ => ?_))
      | exact ih0 _ _ _
      | exact ih1 _ _ _ _ _
      | exact demand_least.mono _ _
      | exact LeO.none _
      | refine LeO.ite ?_ ?_
      | refine LeO.bind ?_ (fun _ => ?_)
    · intro y0 y1 y2 y3 y4
      unfold demand_Next.l0
      repeat' first
      | (with_reducible exact ih0 _ _ _)
      | (with_reducible exact ih1 _ _ _ _ _)
      | (with_reducible exact demand_least.mono _ _)
      | (with_reducible exact LeO.refl _)
      | (with_reducible exact LeO.none _)
      | (with_reducible refine LeO.ite ?_ ?_)
      | (with_reducible refine LeO.bind ?_ (fun _ => ?_))
      | exact ih0 _ _ _
      | exact ih1 _ _ _ _ _
      | exact demand_least.mono _ _
      | exact LeO.none _
      | refine LeO.ite ?_ ?_
      | refine LeO.bind ?_ (fun _ => ?_)
theorem demand_Next.mono : ∀ a0 a1 k, LeO (demand_Next.f k a0 a1) (demand_Next.f (k + 1) a0 a1) := by
  intro a0 a1 k
  obtain ⟨ih0, ih1⟩ := demand_Next.mono_l k
  unfold demand_Next.f
  repeat' first
      | (with_reducible exact ih0 _ _ _)
      | (with_reducible exact ih1 _ _ _ _ _)
      | (with_reducible exact demand_least.mono _ _)
      | (with_reducible exact LeO.refl _)
      | (with_reducible exact LeO.none _)
      | (with_reducible refine LeO.ite ?_ ?_)
      | (with_reducible refine LeO.bind ?_ (fun _ => ?_))
      | exact ih0 _ _ _
      | exact ih1 _ _ _ _ _
      | exact demand_least.mono _ _
      | exact LeO.none _
      | refine LeO.ite ?_ ?_
      | refine LeO.bind ?_ (fun _ => ?_)
def demand_Next.T7 : Bool × List (List Nat × List Nat) := (true, [([], []), ([], []), ([1], [1]), ([], []), ([3], [3]), ([], []), ([], []), ([5, 6], [5, 6]), ([4, 7], [4, 7]), ([2, 8], [2, 8]), ([9], [9]), ([0, 10, 7], [0, 10]), ([11, 11, 0, 1, 2, 3, 4, 5, 6, 7, 8, 9, 10, 11], [0, 11])])
def demand_Next.B7 : List Nat := [0, 0, 2, 0, 8, 0, 0, 96, 248, 510, 1022, 2047, 4095]
theorem demand_Next.tab7 : rtab .any (opsOf Try.f83 7) = demand_Next.T7 := by kernel_rfl
theorem demand_Next.bits7 : waitsOk demand_Next.T7.2 demand_Next.B7 = true := by kernel_rfl
set_option maxHeartbeats 8000000 in
set_option maxRecDepth 100000 in
theorem demand_Next.calls (k : Nat) (A0 : Option Addr) (c0 : Nat) (l0 : List (S28)) (a1 : Int) (r1 : Int) (r2 : Bool) (w : World) (hr0 : Kd.C k28 w A0 l0.length l0) (hc0 : l0.length ≤ c0) (h : demand_Next.f k l0 a1 = some (r1, r2)) :
    Calls Try.prog 83 #[.slice A0 l0.length c0, .int .i64 a1] w fun e w' => e = .returned (.tuple #[.int .i64 r1, .bool r2]) ∧ Below w.heap.size w w' := by
  have hu28 := Try.underlying28
  have HR0 := Aside0.mk hr0
  have HC0 := Aside0.mk hc0
  clear hr0 hc0
  have HB := Aside0.mk (Below.refl w.heap.size w)
  have H : ((demand_may.f l0 a1).bind fun t135 => (if t135 = true then (demand_Next.j0 k l0 a1 ((l0.length : Int) == 0)) else (demand_Next.j0 k l0 a1 true))) = some (r1, r2) := h
  clear h
  have HC3 := Aside0.mk H
  clear H
  go_enter Try.func83, Try.ntmps83
  go_upto_region 1 with (fail)
  go_cut [18] (fun v18 wc => ∃ (kq : Nat) (x18_2 : Bool), v18 = .bool x18_2 ∧ Aside0 (demand_Next.j0 kq l0 a1 x18_2 = some (r1, r2)) ∧ Aside0 (kq ≤ k) ∧ Aside0 (Below w.heap.size w wc))
  case first =>
    have H := HC3.out
    clear HC3
    replace H := Option.bind_eq_some_iff.mp H
    obtain ⟨t135, A40, H⟩ := H
    replace H : (if t135 = true then (demand_Next.j0 k l0 a1 ((l0.length : Int) == 0)) else (demand_Next.j0 k l0 a1 true)) = some (r1, r2) := H
    have A4 := Aside0.mk A40
    clear A40
    by_cases c5 : t135 = true
    · subst c5
      have H1 : (demand_Next.j0 k l0 a1 ((l0.length : Int) == 0)) = some (r1, r2) := by rw [if_pos rfl] at H; exact H
      clear H
      have H := H1
      clear H1
      have H' := Aside0.mk H
      clear H
      go_wp2_with (first | ((with_reducible refine gate_callee (f := 103) rfl ?_); refine goesL_ (some 12) rfl rfl Try.func103 (by kernel_rfl) rfl #[.slice A0 l0.length c0, .int .i64 a1] rfl (by (try simp only [List.map_toArray, List.map_cons, List.map_nil]); first | done | rfl | (simp only [List.length_drop, List.length_take]; rfl)) ?_; (with_reducible refine (demand_may.calls _ _ l0 a1 true _ ?side1 ?side2 A4.out).mono ?_); (case side1 => repeat (first | exact (Kd.C_below HR0.out HB.out) | (with_reducible refine Kd.C_alloc ?_ _) | (with_reducible refine Kd.C_drewN ?_ _) | (with_reducible refine Kd.C_drew ?_))); (case side2 => exact HC0.out); rintro e w6 ⟨rfl, hb⟩; refine ⟨_, rfl, ?_⟩; have n0_ := Aside0.mk (below_step (by repeat (first | (with_reducible first | exact HB.out | apply below_alloc | apply pw_below_drewN | apply below_drew1) | exact HB.out)) hb); clear HB; have HB := n0_; clear n0_; (try clear hb); (try clear hb2); (try clear hk); (try clear hi)))
      go_meet
      case rel => exact ⟨_, (((l0.length : Int) == 0)), (by first | rfl | (simp; done) | (simp [*]; done)), H', ⟨by first | omega | exact Nat.le_refl _⟩, ⟨by repeat (first | (with_reducible first | exact HB.out | apply below_alloc | apply pw_below_drewN | apply below_drew1) | exact HB.out)⟩⟩
    · replace c5 := Bool.eq_false_iff.mpr c5
      subst c5
      have H1 : (demand_Next.j0 k l0 a1 true) = some (r1, r2) := by rw [if_neg (show ¬ (false = true) by decide)] at H; exact H
      clear H
      have H := H1
      clear H1
      have H' := Aside0.mk H
      clear H
      go_wp2_with (first | ((with_reducible refine gate_callee (f := 103) rfl ?_); refine goesL_ (some 12) rfl rfl Try.func103 (by kernel_rfl) rfl #[.slice A0 l0.length c0, .int .i64 a1] rfl (by (try simp only [List.map_toArray, List.map_cons, List.map_nil]); first | done | rfl | (simp only [List.length_drop, List.length_take]; rfl)) ?_; (with_reducible refine (demand_may.calls _ _ l0 a1 false _ ?side1 ?side2 A4.out).mono ?_); (case side1 => repeat (first | exact (Kd.C_below HR0.out HB.out) | (with_reducible refine Kd.C_alloc ?_ _) | (with_reducible refine Kd.C_drewN ?_ _) | (with_reducible refine Kd.C_drew ?_))); (case side2 => exact HC0.out); rintro e w7 ⟨rfl, hb⟩; refine ⟨_, rfl, ?_⟩; have n0_ := Aside0.mk (below_step (by repeat (first | (with_reducible first | exact HB.out | apply below_alloc | apply pw_below_drewN | apply below_drew1) | exact HB.out)) hb); clear HB; have HB := n0_; clear n0_; (try clear hb); (try clear hb2); (try clear hk); (try clear hi)))
      go_meet
      case rel => exact ⟨_, (true), (by first | rfl | (simp; done) | (simp [*]; done)), H', ⟨by first | omega | exact Nat.le_refl _⟩, ⟨by repeat (first | (with_reducible first | exact HB.out | apply below_alloc | apply pw_below_drewN | apply below_drew1) | exact HB.out)⟩⟩
  case rest =>
    clear HC3
    try clear c1
    try clear p2
    try clear c5
    obtain ⟨kq, x18_2, rfl, HA, HJ2, HB⟩ := hcut
    cases kq with
    | zero => exact absurd HA.out (by simp [demand_Next.j0])
    | succ kj2 =>
      have H := HA.out
      clear HA
      simp only [demand_Next.j0] at H
      by_cases c8 : x18_2 = true
      · subst c8
        have H1 : (some (0, false)) = some (r1, r2) := by rw [if_pos rfl] at H; exact H
        clear H
        have H := H1
        clear H1
        simp only [Option.some.injEq, Prod.mk.injEq] at H
        obtain ⟨rfl, rfl⟩ := H
        go_wp2
        go_ret2
        exact ⟨by first | rfl | (simp [errW_none, errW_some] <;> rfl) | (simp [*, errW_none, errW_some] <;> rfl), by repeat (first | (with_reducible first | exact HB.out | apply below_alloc | apply pw_below_drewN | apply below_drew1) | exact HB.out)⟩
      · replace c8 := Bool.eq_false_iff.mpr c8
        subst c8
        have H1 : (demand_Next.l0 kj2 a1 ([] : List Int) l0 (l0.length : Int) 0) = some (r1, r2) := by rw [if_neg (show ¬ (false = true) by decide)] at H; exact H
        clear H
        have H := H1
        clear H1
        have H' := Aside0.mk H
        clear H
        go_wp2
        go_loopg [6, 21] kj2 (fun kq v6 v21 w' => ∃ (x6_2 : List Int) (x21_2 : Int), v21 = .int .i64 x21_2 ∧ Aside0 (demand_Next.l0 kq a1 x6_2 l0 (l0.length : Int) x21_2 = some (r1, r2)) ∧ Aside0 (kq ≤ kj2) ∧ Aside0 (Kd.R (Kd.int .i64) 2 w' w.heap.size (fun _ => True) v6 x6_2) ∧ Aside0 (Below w.heap.size w w'))
        case atStart => exact ⟨(([] : List Int)), (0), (by first | rfl | (simp; done) | (simp [*]; done)), H', ⟨Nat.le_refl _⟩, ⟨by first | exact Kd.R_nil _ _ _ _ _ | exact Kd.N_nil _ _ _ _ _ | exact Kd.V_nil _ _ _ _ _ | exact Kd.Q_nil _ _ _ _ _ | exact Kd.S_nil _ _ _ _ _⟩, ⟨by repeat (first | (with_reducible first | exact HB.out | apply below_alloc | apply pw_below_drewN | apply below_drew1) | exact HB.out)⟩⟩
        case round =>
          clear H'
          try clear c1
          try clear p2
          try clear c5
          try clear c8
          try clear p2
          obtain ⟨x6_2, x21_2, rfl, HA, HK2, HO_6, HB⟩ := hrel
          cases gk with
          | zero => exact absurd HA.out (by simp [demand_Next.l0])
          | succ k2 =>
            have H := HA.out
            clear HA
            simp only [demand_Next.l0] at H
            by_cases c9 : x21_2 < (l0.length : Int)
            · rw [if_pos c9] at H
              have c9b0 : decide (x21_2 < (l0.length : Int)) = true := decide_eq_true c9
              clear c9
              by_cases c10 : 0 ≤ x21_2
              · rw [if_pos c10] at H
                have c10b0 : decide (0 ≤ x21_2) = true := decide_eq_true c10
                clear c10
                by_cases c11 : x21_2 < (l0.length : Int)
                · rw [if_pos c11] at H
                  have c11b0 : decide (x21_2 < (l0.length : Int)) = true := decide_eq_true c11
                  clear c11
                  replace H := Option.bind_eq_some_iff.mp H
                  obtain ⟨t138, A120, H⟩ := H
                  replace H : (if x6_2.length < 17592186044416 then (demand_Next.l0 k2 a1 (x6_2 ++ [wrap64 (((rd_T28 l0 x21_2).f2) + (wrap64 (((rd_T28 l0 x21_2).f3) * t138)))]) l0 (l0.length : Int) (wrap64 (x21_2 + 1))) else (none)) = some (r1, r2) := H
                  have A12 := Aside0.mk A120
                  clear A120
                  by_cases c13 : x6_2.length < 17592186044416
                  · rw [if_pos c13] at H
                    have LMc13 := Aside0.mk c13
                    clear c13
                    obtain ⟨y139, hy139⟩ : ∃ y_ : List Int, y_ = (x6_2 ++ [wrap64 (((rd_T28 l0 x21_2).f2) + (wrap64 (((rd_T28 l0 x21_2).f3) * t138)))]) := ⟨_, rfl⟩
                    replace H : (demand_Next.l0 k2 a1 y139 l0 (l0.length : Int) (wrap64 (x21_2 + 1))) = some (r1, r2) := by first | (rw [hy139]; with_reducible exact H) | (have H2_ := (Option.bind_some _ _).symm.trans H; rw [hy139]; with_reducible exact H2_) | (have H2_ := (Option.bind_some _ _).symm.trans H; with_reducible exact H2_) | with_reducible exact H | (rw [hy139]; exact H) | exact H
                    have Ny139 := Aside0.mk hy139
                    clear hy139
                    have H' := Aside0.mk H
                    clear H
                    have p136 : 0 ≤ (x21_2 : Int) := of_decide_eq_true (by first | (with_reducible assumption) | assumption)
                    have q136 : x21_2 < (l0.length : Int) := of_decide_eq_true (by first | (with_reducible assumption) | assumption)
                    obtain ⟨ad136, e136, hx136_0, hx136_1, hx136_2, hx136_3, hx136_4⟩ := at_T28 HR0.out x21_2 p136 q136
                    cases e136
                    replace hx136_0 := (HB.out.cell (World.block_lt_of_cell? w _ hx136_0)).trans hx136_0
                    replace hx136_1 := (HB.out.cell (World.block_lt_of_cell? w _ hx136_1)).trans hx136_1
                    replace hx136_2 := (HB.out.cell (World.block_lt_of_cell? w _ hx136_2)).trans hx136_2
                    replace hx136_3 := (HB.out.cell (World.block_lt_of_cell? w _ hx136_3)).trans hx136_3
                    replace hx136_4 := (HB.out.cell (World.block_lt_of_cell? w _ hx136_4)).trans hx136_4
                    replace p136 := eq_true p136
                    replace q136 := eq_true q136
                    try go_wp2_with (first | ((with_reducible refine gate_dst (N := 8) rfl ?_); (try (refine gate_guard (by rfl) ?_; dsimp only)); refine box_event ?hg (N := 8) ?hd (cs := #[.int .i64 0, .int .i64 0, .int .i64 0, .int .i64 0, .int .i64 0]) (t := 28) ?hr ?_; (case hd => rfl); (case hg => rfl); (case hr => first | (go_simp; done) | (go_simp; rfl)); intro gb137 hg w14 hbox hb; have n0_ := Aside0.mk (Kd.R_below (by (with_reducible repeat (first | apply Kd.R_alloc | apply Kd.R_drewN | apply Kd.R_drew)); exact HO_6.out) hb); have n1_ := Aside0.mk (below_step (by repeat (first | (with_reducible first | exact HB.out | apply below_alloc | apply pw_below_drewN | apply below_drew1) | exact HB.out)) hb); have n2_ := Aside0.mk (hbox); have n3_ := Aside0.mk ((by rw [hg]; exact (below_size (by repeat (first | (with_reducible first | exact HB.out | apply below_alloc | apply pw_below_drewN | apply below_drew1) | exact HB.out))) : w.heap.size ≤ gb137)); have n4_ := Aside0.mk ((by rw [hg]; exact (below_size (by repeat (first | (with_reducible first | exact HB.out | apply below_alloc | apply pw_below_drewN | apply below_drew1) | exact HB.out))) : w.heap.size ≤ gb137)); clear HO_6; clear HB; have HO_6 := n0_; have HB := n1_; have BK137 := n2_; have GW137 := n3_; have GE137 := n4_; clear n0_ n1_ n2_ n3_ n4_; clear hb hbox hg; have hcz15_0 : w14.cell? ⟨gb137, 0, none⟩ = some (.int .i64 0) := (blk_cell BK137.out 0).trans rfl; have hcz15_1 : w14.cell? ⟨gb137, 1, none⟩ = some (.int .i64 0) := (blk_cell BK137.out 1).trans rfl; have hcz15_2 : w14.cell? ⟨gb137, 2, none⟩ = some (.int .i64 0) := (blk_cell BK137.out 2).trans rfl; have hcz15_3 : w14.cell? ⟨gb137, 3, none⟩ = some (.int .i64 0) := (blk_cell BK137.out 3).trans rfl; have hcz15_4 : w14.cell? ⟨gb137, 4, none⟩ = some (.int .i64 0) := (blk_cell BK137.out 4).trans rfl; have hfz15_0 := blk_frozen BK137.out 0; have hfz15_1 := blk_frozen BK137.out 1; have hfz15_2 := blk_frozen BK137.out 2; have hfz15_3 := blk_frozen BK137.out 3; have hfz15_4 := blk_frozen BK137.out 4))
                    have n0_ : Aside0 (Kd.R (Kd.int .i64) 2 (((((w14.setCell ⟨gb137, 0, none⟩ (.int .i64 ((rd_T28 l0 x21_2).f0))).setCell ⟨gb137, 1, none⟩ (.int .i64 ((rd_T28 l0 x21_2).f1))).setCell ⟨gb137, 2, none⟩ (.int .i64 ((rd_T28 l0 x21_2).f2))).setCell ⟨gb137, 3, none⟩ (.int .i64 ((rd_T28 l0 x21_2).f3))).setCell ⟨gb137, 4, none⟩ (.int .i64 ((rd_T28 l0 x21_2).f4))) w.heap.size (fun _ => True) u6 x6_2) := ⟨by (with_reducible repeat (first | apply Kd.R_alloc | apply Kd.R_drewN | apply Kd.R_drew)); exact Kd.R_mono (Kd.R_far (p := ⟨gb137, 4, none⟩) (Kd.R_far (p := ⟨gb137, 3, none⟩) (Kd.R_far (p := ⟨gb137, 2, none⟩) (Kd.R_far (p := ⟨gb137, 1, none⟩) (Kd.R_far (p := ⟨gb137, 0, none⟩) (Kd.R_types HO_6.out BK137.out (by decide)) (fun _ hk => hk.2) (.int .i64 ((rd_T28 l0 x21_2).f0))) (fun _ hk => hk.2) (.int .i64 ((rd_T28 l0 x21_2).f1))) (fun _ hk => hk.2) (.int .i64 ((rd_T28 l0 x21_2).f2))) (fun _ hk => hk.2) (.int .i64 ((rd_T28 l0 x21_2).f3))) (fun _ hk => hk.2) (.int .i64 ((rd_T28 l0 x21_2).f4))) (fun _ hk => trivial)⟩
                    have n1_ : Aside0 ((((((w14.setCell ⟨gb137, 0, none⟩ (.int .i64 ((rd_T28 l0 x21_2).f0))).setCell ⟨gb137, 1, none⟩ (.int .i64 ((rd_T28 l0 x21_2).f1))).setCell ⟨gb137, 2, none⟩ (.int .i64 ((rd_T28 l0 x21_2).f2))).setCell ⟨gb137, 3, none⟩ (.int .i64 ((rd_T28 l0 x21_2).f3))).setCell ⟨gb137, 4, none⟩ (.int .i64 ((rd_T28 l0 x21_2).f4))).heap[gb137]? = some (.cells #[.int .i64 ((rd_T28 l0 x21_2).f0), .int .i64 ((rd_T28 l0 x21_2).f1), .int .i64 ((rd_T28 l0 x21_2).f2), .int .i64 ((rd_T28 l0 x21_2).f3), .int .i64 ((rd_T28 l0 x21_2).f4)] 28 (0, 0))) := ⟨by (with_reducible repeat (first | refine blk_drewN ?_ _ | refine blk_drew ?_ | refine blk_alloc ?_ _)); refine blk_put (cs := #[.int .i64 ((rd_T28 l0 x21_2).f0), .int .i64 ((rd_T28 l0 x21_2).f1), .int .i64 ((rd_T28 l0 x21_2).f2), .int .i64 ((rd_T28 l0 x21_2).f3), .int .i64 0]) ?_ 4 _ rfl; (with_reducible repeat (first | refine blk_drewN ?_ _ | refine blk_drew ?_ | refine blk_alloc ?_ _)); refine blk_put (cs := #[.int .i64 ((rd_T28 l0 x21_2).f0), .int .i64 ((rd_T28 l0 x21_2).f1), .int .i64 ((rd_T28 l0 x21_2).f2), .int .i64 0, .int .i64 0]) ?_ 3 _ rfl; (with_reducible repeat (first | refine blk_drewN ?_ _ | refine blk_drew ?_ | refine blk_alloc ?_ _)); refine blk_put (cs := #[.int .i64 ((rd_T28 l0 x21_2).f0), .int .i64 ((rd_T28 l0 x21_2).f1), .int .i64 0, .int .i64 0, .int .i64 0]) ?_ 2 _ rfl; (with_reducible repeat (first | refine blk_drewN ?_ _ | refine blk_drew ?_ | refine blk_alloc ?_ _)); refine blk_put (cs := #[.int .i64 ((rd_T28 l0 x21_2).f0), .int .i64 0, .int .i64 0, .int .i64 0, .int .i64 0]) ?_ 1 _ rfl; (with_reducible repeat (first | refine blk_drewN ?_ _ | refine blk_drew ?_ | refine blk_alloc ?_ _)); refine blk_put (cs := #[.int .i64 0, .int .i64 0, .int .i64 0, .int .i64 0, .int .i64 0]) ?_ 0 _ rfl; (with_reducible repeat (first | refine blk_drewN ?_ _ | refine blk_drew ?_ | refine blk_alloc ?_ _)); exact BK137.out⟩
                    have n2_ : Aside0 (Below w.heap.size w (((((w14.setCell ⟨gb137, 0, none⟩ (.int .i64 ((rd_T28 l0 x21_2).f0))).setCell ⟨gb137, 1, none⟩ (.int .i64 ((rd_T28 l0 x21_2).f1))).setCell ⟨gb137, 2, none⟩ (.int .i64 ((rd_T28 l0 x21_2).f2))).setCell ⟨gb137, 3, none⟩ (.int .i64 ((rd_T28 l0 x21_2).f3))).setCell ⟨gb137, 4, none⟩ (.int .i64 ((rd_T28 l0 x21_2).f4)))) := ⟨by repeat (first | (with_reducible first | exact HB.out | apply below_alloc | apply pw_below_drewN | apply below_drew1 | refine below_set ?_ GE137.out) | exact HB.out)⟩
                    (try clear HO_6)
                    (try clear BK137)
                    (try clear HB)
                    generalize (((((w14.setCell ⟨gb137, 0, none⟩ (.int .i64 ((rd_T28 l0 x21_2).f0))).setCell ⟨gb137, 1, none⟩ (.int .i64 ((rd_T28 l0 x21_2).f1))).setCell ⟨gb137, 2, none⟩ (.int .i64 ((rd_T28 l0 x21_2).f2))).setCell ⟨gb137, 3, none⟩ (.int .i64 ((rd_T28 l0 x21_2).f3))).setCell ⟨gb137, 4, none⟩ (.int .i64 ((rd_T28 l0 x21_2).f4))) = w16 at n0_ n1_ n2_ ⊢
                    have HO_6 := n0_
                    have BK137 := n1_
                    have HB := n2_
                    clear n0_ n1_ n2_
                    have n0_ := Aside0.mk (Kd.R_drew HO_6.out)
                    have n1_ := Aside0.mk (blk_drew BK137.out)
                    have n2_ := Aside0.mk (below_drew1 HB.out)
                    clear HO_6
                    clear BK137
                    clear HB
                    have HO_6 := n0_
                    have BK137 := n1_
                    have HB := n2_
                    clear n0_ n1_ n2_
                    refine start_ (n := 13) (S := fun w' => w'.cell? ⟨gb137, 0, none⟩ = some (.int .i64 ((rd_T28 l0 x21_2).f0)) ∧ w'.cell? ⟨gb137, 1, none⟩ = some (.int .i64 ((rd_T28 l0 x21_2).f1)) ∧ w'.cell? ⟨gb137, 2, none⟩ = some (.int .i64 ((rd_T28 l0 x21_2).f2)) ∧ w'.cell? ⟨gb137, 3, none⟩ = some (.int .i64 ((rd_T28 l0 x21_2).f3)) ∧ w'.cell? ⟨gb137, 4, none⟩ = some (.int .i64 ((rd_T28 l0 x21_2).f4))) (ds := []) #[false, false, false, false, false, false, false, false, false, false, false, false, false] (by kernel_rfl) rfl rfl ⟨(blk_cell BK137.out 0).trans rfl, (blk_cell BK137.out 1).trans rfl, (blk_cell BK137.out 2).trans rfl, (blk_cell BK137.out 3).trans rfl, (blk_cell BK137.out 4).trans rfl⟩ (fun hHeld => ?_); refine with_tabW demand_Next.tab7 demand_Next.bits7 (fun HT_ HW_ => ?_)
                    generalize w16.drew = w17 at HO_6 BK137 HB hHeld ⊢
                    refine pure_ (i := 0) (N := some 25) (v := ?_) (a' := ?_) #[true, false, false, false, false, false, false, false, false, false, false, false, false] rfl rfl (any_of HT_.out (by kernel_rfl)) (fun _ _ _ h => h) (Or.inl ⟨by rfl, ?_⟩) ?_ ?_
                    rotate_left; (intro w'; go_simp; with_reducible rfl); rotate_left; (simp only [Act.put, List.setIfInBounds_toArray, List.set_cons_zero, List.set_cons_succ, i64_w, i32_w]; rfl)
                    refine pure_ (i := 1) (N := some 26) (v := ?_) (a' := ?_) #[true, true, false, false, false, false, false, false, false, false, false, false, false] rfl rfl (any_of HT_.out (by kernel_rfl)) (fun _ _ _ h => h) (Or.inl ⟨by rfl, ?_⟩) ?_ ?_
                    rotate_left; (intro w'; go_simp; with_reducible rfl); rotate_left; (simp only [Act.put, List.setIfInBounds_toArray, List.set_cons_zero, List.set_cons_succ, i64_w, i32_w]; rfl)
                    refine pure_ (i := 3) (N := some 28) (v := ?_) (a' := ?_) #[true, true, false, true, false, false, false, false, false, false, false, false, false] rfl rfl (any_of HT_.out (by kernel_rfl)) (fun _ _ _ h => h) (Or.inl ⟨by rfl, ?_⟩) ?_ ?_
                    rotate_left; (intro w'; go_simp; with_reducible rfl); rotate_left; (simp only [Act.put, List.setIfInBounds_toArray, List.set_cons_zero, List.set_cons_succ, i64_w, i32_w]; rfl)
                    refine pure_ (i := 6) (N := some 31) (v := ?_) (a' := ?_) #[true, true, false, true, false, false, true, false, false, false, false, false, false] rfl rfl (any_of HT_.out (by kernel_rfl)) (fun _ _ _ h => h) (Or.inl ⟨by rfl, ?_⟩) ?_ ?_
                    rotate_left; (intro w'; go_simp; with_reducible rfl); rotate_left; (simp only [Act.put, List.setIfInBounds_toArray, List.set_cons_zero, List.set_cons_succ, i64_w, i32_w]; rfl)
                    refine take_ (i := 2) (N := some 27) (v := ?_) (a' := ?_) #[true, true, true, true, false, false, true, false, false, false, false, false, false] rfl rfl (take_ofW HT_.out HW_.out (by kernel_rfl)) (fun _ _ _ h => h) (Or.inl ⟨by rfl, ?_⟩) hHeld ?_ ?_
                    rotate_left; (rintro w' ⟨s0, s1, s2, s3, s4⟩; go_simp; with_reducible rfl); rotate_left; (simp only [Act.put, List.setIfInBounds_toArray, List.set_cons_zero, List.set_cons_succ, i64_w, i32_w]; rfl)
                    refine take_ (i := 4) (N := some 29) (v := ?_) (a' := ?_) #[true, true, true, true, true, false, true, false, false, false, false, false, false] rfl rfl (take_ofW HT_.out HW_.out (by kernel_rfl)) (fun _ _ _ h => h) (Or.inl ⟨by rfl, ?_⟩) hHeld ?_ ?_
                    rotate_left; (rintro w' ⟨s0, s1, s2, s3, s4⟩; go_simp; with_reducible rfl); rotate_left; (simp only [Act.put, List.setIfInBounds_toArray, List.set_cons_zero, List.set_cons_succ, i64_w, i32_w]; rfl)
                    refine take_ (i := 5) (N := some 30) (v := ?_) (a' := ?_) #[true, true, true, true, true, true, true, false, false, false, false, false, false] rfl rfl (take_ofW HT_.out HW_.out (by kernel_rfl)) (fun _ _ _ h => h) (Or.inl ⟨by rfl, ?_⟩) hHeld ?_ ?_
                    rotate_left; (rintro w' ⟨s0, s1, s2, s3, s4⟩; go_simp; with_reducible rfl); rotate_left; (simp only [Act.put, List.setIfInBounds_toArray, List.set_cons_zero, List.set_cons_succ, i64_w, i32_w]; rfl)
                    refine one_ (i := 7) (N := some 32) #[true, true, true, true, true, true, true, true, false, false, false, false, false] rfl rfl (one_of HT_.out (by kernel_rfl)) (by decide) (fun K hK => ?_)
                    refine goes_ Try.func104 (by kernel_rfl) rfl #[.agg #[.int .i64 ((rd_T28 l0 x21_2).f0), .int .i64 ((rd_T28 l0 x21_2).f1), .int .i64 ((rd_T28 l0 x21_2).f2), .int .i64 ((rd_T28 l0 x21_2).f3), .int .i64 ((rd_T28 l0 x21_2).f4)], .int .i64 a1] (by rfl) rfl rfl (by (try simp only [List.map_toArray, List.map_cons, List.map_nil]); first | done | rfl | (simp only [List.length_drop, List.length_take]; rfl)) ?_
                    with_reducible refine (demand_many.calls ((rd_T28 l0 x21_2).f0) ((rd_T28 l0 x21_2).f1) ((rd_T28 l0 x21_2).f2) ((rd_T28 l0 x21_2).f3) ((rd_T28 l0 x21_2).f4) a1 t138 _ A12.out).mono ?_
                    rintro e w18 ⟨rfl, hb⟩
                    refine ⟨_, rfl, ?_⟩
                    have n0_ := Aside0.mk (Kd.R_below (by (with_reducible repeat (first | apply Kd.R_alloc | apply Kd.R_drewN | apply Kd.R_drew)); exact HO_6.out) hb)
                    have n1_ := Aside0.mk (blk_below (g := gb137) (o := .cells #[.int .i64 ((rd_T28 l0 x21_2).f0), .int .i64 ((rd_T28 l0 x21_2).f1), .int .i64 ((rd_T28 l0 x21_2).f2), .int .i64 ((rd_T28 l0 x21_2).f3), .int .i64 ((rd_T28 l0 x21_2).f4)] 28 (0, 0)) (by (with_reducible repeat (first | refine blk_drewN ?_ _ | refine blk_drew ?_ | refine blk_alloc ?_ _)); exact BK137.out) hb)
                    have n2_ := Aside0.mk (below_step (by repeat (first | (with_reducible first | exact HB.out | apply below_alloc | apply pw_below_drewN | apply below_drew1 | refine below_set ?_ GE137.out) | exact HB.out)) hb)
                    clear HO_6
                    clear BK137
                    clear HB
                    have HO_6 := n0_
                    have BK137 := n1_
                    have HB := n2_
                    clear n0_ n1_ n2_
                    (try clear hb)
                    (try clear hb2)
                    (try clear hk)
                    (try clear hi)
                    refine hK.out _ _ ⟨(blk_cell BK137.out 0).trans rfl, (blk_cell BK137.out 1).trans rfl, (blk_cell BK137.out 2).trans rfl, (blk_cell BK137.out 3).trans rfl, (blk_cell BK137.out 4).trans rfl⟩ (fun hHeld => ?_)
                    clear hK K
                    refine norm_ (a' := ?_) ?_ ?_
                    rotate_left; (show Act.put _ (some 32) _ = _; simp only [Act.put, List.setIfInBounds_toArray, List.set_cons_zero, List.set_cons_succ, i64_w, i32_w]; rfl)
                    refine pure_ (i := 8) (N := some 33) (v := ?_) (a' := ?_) #[true, true, true, true, true, true, true, true, true, false, false, false, false] rfl rfl (any_of HT_.out (by kernel_rfl)) (fun _ _ _ h => h) (Or.inl ⟨by rfl, ?_⟩) ?_ ?_
                    rotate_left; (intro w'; go_simp; with_reducible rfl); rotate_left; (simp only [Act.put, List.setIfInBounds_toArray, List.set_cons_zero, List.set_cons_succ, i64_w, i32_w]; rfl)
                    refine pure_ (i := 9) (N := some 34) (v := ?_) (a' := ?_) #[true, true, true, true, true, true, true, true, true, true, false, false, false] rfl rfl (any_of HT_.out (by kernel_rfl)) (fun _ _ _ h => h) (Or.inl ⟨by rfl, ?_⟩) ?_ ?_
                    rotate_left; (intro w'; go_simp; with_reducible rfl); rotate_left; (simp only [Act.put, List.setIfInBounds_toArray, List.set_cons_zero, List.set_cons_succ, i64_w, i32_w]; rfl)
                    refine one_ (i := 10) (N := some 35) #[true, true, true, true, true, true, true, true, true, true, true, false, false] rfl rfl (one_of HT_.out (by kernel_rfl)) (by decide) (fun K hK => ?_)
                    refine value_ (w1 := ?_) (v := ?_) (by rfl) rfl ?_ ?_
                    rotate_left 2
                    · go_simp
                      constructor
                      · rfl
                      · rfl
                    refine hK.out _ _ ⟨(blk_cell (blk_alloc BK137.out _) 0).trans rfl, (blk_cell (blk_alloc BK137.out _) 1).trans rfl, (blk_cell (blk_alloc BK137.out _) 2).trans rfl, (blk_cell (blk_alloc BK137.out _) 3).trans rfl, (blk_cell (blk_alloc BK137.out _) 4).trans rfl⟩ (fun hHeld => ?_)
                    clear hK K
                    refine norm_ (a' := ?_) ?_ ?_
                    rotate_left; (show Act.put _ (some 35) _ = _; simp only [Act.put, List.setIfInBounds_toArray, List.set_cons_zero, List.set_cons_succ, i64_w, i32_w]; rfl)
                    refine one_ (i := 11) (N := some 36) #[true, true, true, true, true, true, true, true, true, true, true, true, false] rfl rfl (one_of HT_.out (by kernel_rfl)) (by decide) (fun K hK => ?_)
                    refine Kd.R_append_step (Kd.int .i64) (w0 := w) w.heap.size (by rfl) (.tmp 25) (.tmp 35) 43 2 (.int .i64 0) 8 rfl Try.underlying43 info2 rfl (by decide) (by omega) u6 x6_2 (wrap64 (((rd_T28 l0 x21_2).f2) + (wrap64 (((rd_T28 l0 x21_2).f3) * t138)))) [.int .i64 (wrap64 (((rd_T28 l0 x21_2).f2) + (wrap64 (((rd_T28 l0 x21_2).f3) * t138))))] (fun _ => True) (fun _ => False) rfl rfl ?aP (fun _ hk => hk.elim) ?aF ?aO ?aB ?aS ?aL ?_
                    (case aP => exact rfl)
                    (case aB => exact (by repeat (first | (with_reducible first | exact HB.out | apply below_alloc | apply pw_below_drewN | apply below_drew1 | refine below_set ?_ GE137.out) | exact HB.out)))
                    (case aF => exact (fun _ _ => trivial))
                    (case aO => exact (by (with_reducible repeat (first | apply Kd.R_alloc | apply Kd.R_drewN | apply Kd.R_drew)); exact HO_6.out))
                    (case aS => exact (below_size (by repeat (first | (with_reducible first | exact HB.out | apply below_alloc | apply pw_below_drewN | apply below_drew1 | refine below_set ?_ GE137.out) | exact HB.out))))
                    (case aL => have := LMc13.out; omega)
                    intro v140 w19 ho hb hg hat
                    rw [← Ny139.out] at ho
                    have n0_ := Aside0.mk (blk_grown (g := gb137) (o := .cells #[.int .i64 ((rd_T28 l0 x21_2).f0), .int .i64 ((rd_T28 l0 x21_2).f1), .int .i64 ((rd_T28 l0 x21_2).f2), .int .i64 ((rd_T28 l0 x21_2).f3), .int .i64 ((rd_T28 l0 x21_2).f4)] 28 (0, 0)) (by (with_reducible repeat (first | refine blk_drewN ?_ _ | refine blk_drew ?_ | refine blk_alloc ?_ _)); exact BK137.out) hg (Kd.R_ne HO_6.out BK137.out (by decide)))
                    have n1_ := Aside0.mk (hb)
                    have n2_ := Aside0.mk (ho)
                    clear BK137
                    clear HB
                    clear HO_6
                    have BK137 := n0_
                    have HB := n1_
                    have HO141 := n2_
                    clear n0_ n1_ n2_
                    clear ho hb hg hat
                    refine hK.out _ _ ⟨(blk_cell BK137.out 0).trans rfl, (blk_cell BK137.out 1).trans rfl, (blk_cell BK137.out 2).trans rfl, (blk_cell BK137.out 3).trans rfl, (blk_cell BK137.out 4).trans rfl⟩ (fun hHeld => ?_)
                    clear hK K
                    refine norm_ (a' := ?_) ?_ ?_
                    rotate_left; (show Act.put _ (some 36) _ = _; simp only [Act.put, List.setIfInBounds_toArray, List.set_cons_zero, List.set_cons_succ, i64_w, i32_w]; rfl)
                    refine pure_ (i := 12) (N := some 6) (v := ?_) (a' := ?_) #[true, true, true, true, true, true, true, true, true, true, true, true, true] rfl rfl (any_of HT_.out (by kernel_rfl)) (fun _ _ _ h => h) (Or.inl ⟨by rfl, ?_⟩) ?_ ?_
                    rotate_left; (intro w'; go_simp; with_reducible rfl); rotate_left; (simp only [Act.put, List.setIfInBounds_toArray, List.set_cons_zero, List.set_cons_succ, i64_w, i32_w]; rfl)
                    refine done_ (done_of HT_.out (by kernel_rfl)) ?_
                    try go_wp2
                    go_roundg k2
                    case measure => have := HJ2.out; have := HK2.out; omega
                    case rel => exact ⟨(y139), (wrap64 (x21_2 + 1)), (by first | rfl | (simp; done) | (simp [*]; done)), H', ⟨by have := HJ2.out; have := HK2.out; omega⟩, ⟨by (with_reducible repeat (first | apply Kd.R_alloc | apply Kd.R_drewN | apply Kd.R_drew)); exact HO141.out⟩, ⟨by repeat (first | (with_reducible first | exact HB.out | apply below_alloc | apply pw_below_drewN | apply below_drew1 | refine below_set ?_ GE137.out) | exact HB.out)⟩⟩
                  · rw [if_neg c13] at H
                    exact absurd H (by simp)
                · rw [if_neg c11] at H
                  exact absurd H (by simp)
              · rw [if_neg c10] at H
                exact absurd H (by simp)
            · rw [if_neg c9] at H
              have c9b0 : decide (x21_2 < (l0.length : Int)) = false := decide_eq_false c9
              clear c9
              replace H := Option.bind_eq_some_iff.mp H
              obtain ⟨t142, A200, H⟩ := H
              replace H : (if t142 > 1099511627776 then (some (0, false)) else (some (t142, true))) = some (r1, r2) := H
              have A20 := Aside0.mk A200
              clear A200
              by_cases c21 : t142 > 1099511627776
              · rw [if_pos c21] at H
                have c21b0 : decide (1099511627776 < t142) = true := decide_eq_true c21
                clear c21
                simp only [Option.some.injEq, Prod.mk.injEq] at H
                obtain ⟨rfl, rfl⟩ := H
                obtain ⟨Ao22, co22, eo22⟩ := Kd.R_slice HO_6.out
                subst eo22
                go_wp2_with (first | ((with_reducible refine gate_callee (f := 105) rfl ?_); refine goesL_ (some 39) rfl rfl Try.func105 (by kernel_rfl) rfl #[.slice Ao22 x6_2.length co22] rfl (by (try simp only [List.map_toArray, List.map_cons, List.map_nil]); first | done | rfl | (simp only [List.length_drop, List.length_take]; rfl)) ?_; (with_reducible refine (demand_least.calls k2 _ _ x6_2 t142 _ ?side1 ?side2 A20.out).mono ?_); (case side1 => repeat (first | exact (Kd.R_reads' HO_6.out).2.2 | (with_reducible refine Kd.C_alloc ?_ _) | (with_reducible refine Kd.C_drewN ?_ _) | (with_reducible refine Kd.C_drew ?_))); (case side2 => exact (Kd.R_reads' HO_6.out).2.1); rintro e w23 ⟨rfl, hb⟩; refine ⟨_, rfl, ?_⟩; have n0_ := Aside0.mk (Kd.R_below (by (with_reducible repeat (first | apply Kd.R_alloc | apply Kd.R_drewN | apply Kd.R_drew)); exact HO_6.out) hb); have n1_ := Aside0.mk (below_step (by repeat (first | (with_reducible first | exact HB.out | apply below_alloc | apply pw_below_drewN | apply below_drew1) | exact HB.out)) hb); clear HO_6; clear HB; have HO_6 := n0_; have HB := n1_; clear n0_ n1_; (try clear hb); (try clear hb2); (try clear hk); (try clear hi)))
                go_ret2
                exact ⟨by first | rfl | (simp [errW_none, errW_some] <;> rfl) | (simp [*, errW_none, errW_some] <;> rfl), by repeat (first | (with_reducible first | exact HB.out | apply below_alloc | apply pw_below_drewN | apply below_drew1) | exact HB.out)⟩
              · rw [if_neg c21] at H
                have c21b0 : decide (1099511627776 < t142) = false := decide_eq_false c21
                clear c21
                simp only [Option.some.injEq, Prod.mk.injEq] at H
                obtain ⟨rfl, rfl⟩ := H
                obtain ⟨Ao24, co24, eo24⟩ := Kd.R_slice HO_6.out
                subst eo24
                go_wp2_with (first | ((with_reducible refine gate_callee (f := 105) rfl ?_); refine goesL_ (some 39) rfl rfl Try.func105 (by kernel_rfl) rfl #[.slice Ao24 x6_2.length co24] rfl (by (try simp only [List.map_toArray, List.map_cons, List.map_nil]); first | done | rfl | (simp only [List.length_drop, List.length_take]; rfl)) ?_; (with_reducible refine (demand_least.calls k2 _ _ x6_2 t142 _ ?side1 ?side2 A20.out).mono ?_); (case side1 => repeat (first | exact (Kd.R_reads' HO_6.out).2.2 | (with_reducible refine Kd.C_alloc ?_ _) | (with_reducible refine Kd.C_drewN ?_ _) | (with_reducible refine Kd.C_drew ?_))); (case side2 => exact (Kd.R_reads' HO_6.out).2.1); rintro e w25 ⟨rfl, hb⟩; refine ⟨_, rfl, ?_⟩; have n0_ := Aside0.mk (Kd.R_below (by (with_reducible repeat (first | apply Kd.R_alloc | apply Kd.R_drewN | apply Kd.R_drew)); exact HO_6.out) hb); have n1_ := Aside0.mk (below_step (by repeat (first | (with_reducible first | exact HB.out | apply below_alloc | apply pw_below_drewN | apply below_drew1) | exact HB.out)) hb); clear HO_6; clear HB; have HO_6 := n0_; have HB := n1_; clear n0_ n1_; (try clear hb); (try clear hb2); (try clear hk); (try clear hi)))
                go_ret2
                exact ⟨by first | rfl | (simp [errW_none, errW_some] <;> rfl) | (simp [*, errW_none, errW_some] <;> rfl), by repeat (first | (with_reducible first | exact HB.out | apply below_alloc | apply pw_below_drewN | apply below_drew1) | exact HB.out)⟩

/-! ### slices_Min__int64_int64: function 56 -/
def slices_Min__int64_int64.l0 : Nat → List Int → Int → Int → Option (Int)
  | 0, _, _, _ => none
  | k + 1, x0, x3, x4 => if x4 < (x0.length : Int) then (if 0 ≤ x4 then (slices_Min__int64_int64.l0 k x0 (mn x3 (rd x0 x4)) (wrap64 (x4 + 1))) else (none)) else (some x3)
def slices_Min__int64_int64.f (k : Nat) (l0 : List Int) : Option (Int) := if (l0.length : Int) < 1 then (none) else (if 0 < (l0.length : Int) then (slices_Min__int64_int64.l0 k l0 (rd l0 0) 1) else (none))
theorem slices_Min__int64_int64.mono_l : ∀ k, (∀ y0 y1 y2, LeO (slices_Min__int64_int64.l0 k y0 y1 y2) (slices_Min__int64_int64.l0 (k + 1) y0 y1 y2))
  | 0 => fun _ _ _ r h => by simp [slices_Min__int64_int64.l0] at h
  | k + 1 => by
    have ih0 := slices_Min__int64_int64.mono_l k
    · intro y0 y1 y2
      unfold slices_Min__int64_int64.l0
      repeat' first
      | (with_reducible exact ih0 _ _ _)
      | (with_reducible exact LeO.refl _)
      | (with_reducible exact LeO.none _)
      | (with_reducible refine LeO.ite ?_ ?_)
      | (with_reducible refine LeO.bind ?_ (fun _ => ?_))
      | exact ih0 _ _ _
      | exact LeO.none _
      | refine LeO.ite ?_ ?_
      | refine LeO.bind ?_ (fun _ => ?_)
theorem slices_Min__int64_int64.mono : ∀ a0 k, LeO (slices_Min__int64_int64.f k a0) (slices_Min__int64_int64.f (k + 1) a0) := by
  intro a0 k
  have ih0 := slices_Min__int64_int64.mono_l k
  unfold slices_Min__int64_int64.f
  repeat' first
      | (with_reducible exact ih0 _ _ _)
      | (with_reducible exact LeO.refl _)
      | (with_reducible exact LeO.none _)
      | (with_reducible refine LeO.ite ?_ ?_)
      | (with_reducible refine LeO.bind ?_ (fun _ => ?_))
      | exact ih0 _ _ _
      | exact LeO.none _
      | refine LeO.ite ?_ ?_
      | refine LeO.bind ?_ (fun _ => ?_)
set_option maxHeartbeats 8000000 in
set_option maxRecDepth 100000 in
theorem slices_Min__int64_int64.calls (k : Nat) (A0 : Option Addr) (c0 : Nat) (l0 : List Int) (r : Int) (w : World) (hr0 : Kd.C (Kd.int .i64) w A0 l0.length l0) (hc0 : l0.length ≤ c0) (h : slices_Min__int64_int64.f k l0 = some r) :
    Calls Try.prog 56 #[.slice A0 l0.length c0] w fun e w' => e = .returned (.int .i64 r) ∧ Below w.heap.size w w' := by
  have HR0 := Aside0.mk hr0
  have HC0 := Aside0.mk hc0
  clear hr0 hc0
  have HB := Aside0.mk (Below.refl w.heap.size w)
  have H : (if (l0.length : Int) < 1 then (none) else (if 0 < (l0.length : Int) then (slices_Min__int64_int64.l0 k l0 (rd l0 0) 1) else (none))) = some r := h
  clear h
  by_cases c2 : (l0.length : Int) < 1
  · rw [if_pos c2] at H
    exact absurd H (by simp)
  · rw [if_neg c2] at H
    have c2b0 : decide ((l0.length : Int) < 1) = false := decide_eq_false c2
    have c2b1 : decide (l0.length < 1) = false := decide_eq_false (by omega)
    clear c2
    by_cases c3 : 0 < (l0.length : Int)
    · rw [if_pos c3] at H
      have c3b0 : decide (0 < (l0.length : Int)) = true := decide_eq_true c3
      have c3b1 : decide (0 < l0.length) = true := decide_eq_true (by omega)
      clear c3
      have H' := Aside0.mk H
      clear H
      have p143 : 0 ≤ (0 : Int) := (by omega)
      have q143 : 0 < (l0.length : Int) := of_decide_eq_true (by first | (with_reducible assumption) | assumption)
      obtain ⟨ad143, e143, hx143_0⟩ := Kd.at_int HR0.out 0 p143 q143
      cases e143
      have qi143 : (0 < l0.length) = True := eq_true (by omega)
      (try rw [show ((0 : Int)).toNat = 0 from rfl] at hx143_0)
      (try rw [Addr.add_zero'] at hx143_0)
      replace p143 := eq_true p143
      replace q143 := eq_true q143
      go_enter Try.func56, Try.ntmps56
      go_wp2
      go_loopg [3, 4] k (fun kq v3 v4 w' => ∃ (x3_1 : Int) (x4_1 : Int), v3 = .int .i64 x3_1 ∧ v4 = .int .i64 x4_1 ∧ Aside0 (slices_Min__int64_int64.l0 kq l0 x3_1 x4_1 = some r) ∧ Aside0 (kq ≤ k) ∧ Aside0 (Below w.heap.size w w'))
      case atStart => exact ⟨(rd l0 0), (1), (by first | rfl | (simp; done) | (simp [*]; done)), (by first | rfl | (simp; done) | (simp [*]; done)), H', ⟨Nat.le_refl _⟩, ⟨by repeat (first | (with_reducible first | exact HB.out | apply below_alloc | apply pw_below_drewN | apply below_drew1) | exact HB.out)⟩⟩
      case round =>
        clear H'
        try clear p1
        try clear q1
        try clear hx1
        try clear qi1
        try clear c2
        try clear c2b0
        try clear c2b1
        try clear p2
        try clear c3
        try clear c3b0
        try clear c3b1
        try clear hx143_0
        try clear p143
        try clear q143
        obtain ⟨x3_1, x4_1, rfl, rfl, HA, HK1, HB⟩ := hrel
        cases gk with
        | zero => exact absurd HA.out (by simp [slices_Min__int64_int64.l0])
        | succ k1 =>
          have H := HA.out
          clear HA
          simp only [slices_Min__int64_int64.l0] at H
          by_cases c4 : x4_1 < (l0.length : Int)
          · rw [if_pos c4] at H
            have c4b0 : decide (x4_1 < (l0.length : Int)) = true := decide_eq_true c4
            clear c4
            by_cases c5 : 0 ≤ x4_1
            · rw [if_pos c5] at H
              have c5b0 : decide (0 ≤ x4_1) = true := decide_eq_true c5
              clear c5
              obtain ⟨ji6, hji6⟩ : ∃ j_ : Int, (mn x3_1 (rd l0 x4_1)) = j_ := ⟨_, rfl⟩
              replace H : (slices_Min__int64_int64.l0 k1 l0 ji6 (wrap64 (x4_1 + 1))) = some r := by first | (rw [hji6] at H; exact H) | (simp only [hji6] at H ⊢; exact H)
              have hji6_ : (if (rd l0 x4_1) < x3_1 then (rd l0 x4_1) else x3_1) = ji6 := hji6
              have H' := Aside0.mk H
              clear H
              have p144 : 0 ≤ (x4_1 : Int) := of_decide_eq_true (by first | (with_reducible assumption) | assumption)
              have q144 : x4_1 < (l0.length : Int) := of_decide_eq_true (by first | (with_reducible assumption) | assumption)
              obtain ⟨ad144, e144, hx144_0⟩ := Kd.at_int HR0.out x4_1 p144 q144
              obtain rfl : ad143 = ad144 := (by injection e144)
              replace hx144_0 := (HB.out.cell (World.block_lt_of_cell? w _ hx144_0)).trans hx144_0
              replace p144 := eq_true p144
              replace q144 := eq_true q144
              go_wp2
              go_roundg k1
              case measure => have := HK1.out; omega
              case rel => exact ⟨(ji6), (wrap64 (x4_1 + 1)), (by first | rfl | (simp; done) | (simp only [← hji6] <;> (first | rfl | simp)) | (simp [*]; done)), (by first | rfl | (simp; done) | (simp [*]; done)), H', ⟨by have := HK1.out; omega⟩, ⟨by repeat (first | (with_reducible first | exact HB.out | apply below_alloc | apply pw_below_drewN | apply below_drew1) | exact HB.out)⟩⟩
            · rw [if_neg c5] at H
              exact absurd H (by simp)
          · rw [if_neg c4] at H
            have c4b0 : decide (x4_1 < (l0.length : Int)) = false := decide_eq_false c4
            clear c4
            obtain rfl := Option.some.inj H
            go_wp2
            go_ret
            exact ⟨by first | rfl | (simp [errW_none, errW_some] <;> rfl) | (simp [*, errW_none, errW_some] <;> rfl), by repeat (first | (with_reducible first | exact HB.out | apply below_alloc | apply pw_below_drewN | apply below_drew1) | exact HB.out)⟩
    · rw [if_neg c3] at H
      exact absurd H (by simp)

/-! ### probe_Slack: function 23 (by hand) -/
set_option maxHeartbeats 8000000 in
set_option maxRecDepth 100000 in
theorem slackApp.calls (bs base : Nat) (x s : Int) (out : List Int) (v : Value) (w : World) (hb : w.heap[bs]? = some (.cells #[v] 43 (0, 0))) (hown : w.ownsRow base 2 1 v out.length (out.map (Value.int .i64))) (l2 : bs < base) (l3 : base ≤ w.heap.size) (hlen : out.length < 10000000000000) :
    Calls Try.prog 55 #[.int .i64 x, .int .i64 s, .pointer (some ⟨bs, 0, none⟩)] w fun e w' => e = .returned (.bool true) ∧ (∃ v', w'.heap[bs]? = some (.cells #[v'] 43 (0, 0)) ∧ w'.ownsRow base 2 1 v' (out.length + 1) ((out ++ [s]).map (Value.int .i64))) ∧ ∀ B, B ≤ bs → Below B w w' := by
  have HB := Lib.hid hb
  have HO := Lib.hid hown
  have c0 : w.cell? ⟨bs, 0, none⟩ = some v := (blk_cell hb 0).trans rfl
  have hlt := blk_lt hb
  have m1 : ¬ bs = w.heap.size := by omega
  have m2 : ¬ w.heap.size = bs := by omega
  clear hb hown
  go_enter Try.func55, Try.ntmps55
  obtain ⟨i0, hi0, hz0, hz1, hz2⟩ := info_parts info2
  go_wp2_with (at_builtin; (
       refine wpList_append_own _ rfl _ _ 43 rfl base 2 i0 (.int .i64 0) 1 8 Try.underlying43 hi0 hz0 hz1 hz2 rfl (by decide) _ _ _ rfl (HO.out.alloc _) ⟨w.heap.size, 0, none⟩ 1 1 [.int .i64 s] rfl rfl (cell_one_new w (.int .i64 s) 2) (by simp [Value.oneCell']) (by unfold maxLen; omega) (by omega) (by simp; omega) ?_; intro v' w3 hown' hg3 hnil3
       replace hg3 : (w.alloc (.cells #[.int .i64 s] 2)).grownBy w3 v.ownBlock := hg3
       have hq3 : w3.heap[bs]? = some (.cells #[v] 43 (0, 0)) := (hg3.block bs (by simp; omega) (PxR.own_far HO.out (Or.inl l2))).trans ((Below.heap_alloc _ _ bs hlt).trans HB.out)
       have f3 : w3.frozen? ⟨bs, 0, none⟩ = false := blk_frozen hq3 0
       have c3 : w3.cell? ⟨bs, 0, none⟩ = some v := (blk_cell hq3 0).trans rfl
       obtain ⟨g', cap', rfl⟩ : ∃ g' cap', v' = .slice (some ⟨g', 0, none⟩) (out.length + 1) cap' := by
         rcases hown'.2 with ⟨_, h0⟩ | ⟨g', cap', _, h', _⟩
         · exact absurd h0 (by omega)
         · exact ⟨g', cap', h'⟩
       have HG3 := Lib.hid hg3
       have HW3 := Lib.hid hown'
       have HQ3 := Lib.hid hq3
       clear hg3 hown' hq3 hnil3
       go_frame))
  go_ret
  have hO := HW3.out.kept (PxR.grown_set w3 ⟨bs, 0, none⟩ (.slice (some ⟨g', 0, none⟩) (out.length + 1) cap')) (PxR.own_ne HW3.out (Or.inl l2))
  refine ⟨rfl, ⟨_, by have := blk_set HQ3.out 0 (.slice (some ⟨g', 0, none⟩) (out.length + 1) cap'); simpa using this, by simpa using hO⟩, fun B h1 => ?_⟩
  have k1 : Below B w w3 := ((Below.refl B w).alloc (by omega) _).grown HG3.out (by simp; omega) (fun k e => by have := PxR.own_lt HO.out e; omega)
  exact k1.setCell (p := ⟨bs, 0, none⟩) h1 _
/-- The slacks of all deadlines up to the period. -/
def slackGo (k : Nat) (l : List S28) (p : Int) : Nat → Int → Bool → List Int → Option (List Int)
  | 0, _, _, _ => none
  | j + 1, x, is, acc => if is = true then (if x ≤ p then (demand_Of.f k l x).bind fun n => (demand_Next.f k l x).bind fun t => if acc.length < 10000000000000 then slackGo k l p j t.1 t.2 (acc ++ [wrap64 (x - n)]) else none else some acc) else some acc
theorem slackGo_mono (k : Nat) (l : List S28) (p : Int) : ∀ j x is acc, LeO (slackGo k l p j x is acc) (slackGo (k + 1) l p (j + 1) x is acc)
  | 0, x, is, acc => fun r h => by simp [slackGo] at h
  | j + 1, x, is, acc => by
    unfold slackGo
    exact LeO.ite (LeO.ite (LeO.bind (demand_Of.mono _ _ k) (fun n => LeO.bind (demand_Next.mono _ _ k) (fun t => LeO.ite (slackGo_mono k l p j _ _ _) (LeO.refl _)))) (LeO.refl _)) (LeO.refl _)
set_option maxHeartbeats 8000000 in
set_option maxRecDepth 100000 in
theorem eachS.calls (k j0 : Nat) (A0 : Option Addr) (c0 : Nat) (l0 : List S28) (p e0 x0 : Int) (is0 : Bool) (all : List Int) (bs base : Nat) (v0 : Value) (w wb : World) (hr0 : Kd.C k28 wb A0 l0.length l0) (hc0 : l0.length ≤ c0) (hwb : Below wb.heap.size wb w) (hbs : wb.heap.size ≤ bs) (hb : w.heap[bs]? = some (.cells #[v0] 43 (0, 0))) (hown : w.ownsRow base 2 1 v0 0 []) (l2 : bs < base) (l3 : base ≤ w.heap.size)
    (hP : param_Period.f k l0 = some (p, e0)) (hN : demand_Next.f k l0 0 = some (x0, is0)) (hG : slackGo k l0 p j0 x0 is0 [] = some all) :
    Calls Try.prog 54 #[.slice A0 l0.length c0, .func (.func 55) #[] #[.pointer (some ⟨bs, 0, none⟩)]] w fun e w' => e = .returned (.int .i64 p) ∧ (∃ v', w'.heap[bs]? = some (.cells #[v'] 43 (0, 0)) ∧ w'.ownsRow base 2 1 v' all.length (all.map (Value.int .i64))) ∧ Below wb.heap.size wb w' := by
  have HR0 := Lib.hid hr0
  have HC0 := Lib.hid hc0
  have HB := Lib.hid hwb
  have HQ := Lib.hid hb
  have HO := Lib.hid hown
  have HP := Lib.hid hP
  have HN := Lib.hid hN
  have HG := Lib.hid hG
  have HBS := Lib.hid hbs
  have HL2 := Lib.hid l2
  have HL3 := Lib.hid l3
  clear hr0 hc0 hwb hb hown hP hN hG hbs l2 l3
  go_enter Try.func54, Try.ntmps54
  go_wp2_with (first
    | (go_at_call 37; refine (param_Period.calls k A0 c0 l0 p e0 _ (Kd.C_below HR0.out HB.out) HC0.out HP.out).mono ?_; rintro e w1 ⟨rfl, q1⟩; replace HQ := Lib.hid (blk_below HQ.out q1); replace HO := Lib.hid (PxR.own_below HO.out q1); replace HL3 := Lib.hid (Nat.le_trans HL3.out q1.size); replace HB := Lib.hid (below_step HB.out q1); clear q1)
    | (go_at_call 83; refine (demand_Next.calls k A0 c0 l0 0 x0 is0 _ (Kd.C_below HR0.out HB.out) HC0.out HN.out).mono ?_; rintro e w2 ⟨rfl, q1⟩; replace HQ := Lib.hid (blk_below HQ.out q1); replace HO := Lib.hid (PxR.own_below HO.out q1); replace HL3 := Lib.hid (Nat.le_trans HL3.out q1.size); replace HB := Lib.hid (below_step HB.out q1); clear q1))
  go_loopg [7, 8] (j0 + 1) (fun gk v7 v8 wr => ∃ (j : Nat) (x : Int) (is : Bool) (acc : List Int) (v : Value), v7 = .int .i64 x ∧ v8 = .bool is ∧ j < gk ∧ Hid (slackGo k l0 p j x is acc = some all) ∧ Hid (wr.heap[bs]? = some (.cells #[v] 43 (0, 0))) ∧ Hid (wr.ownsRow base 2 1 v acc.length (acc.map (Value.int .i64))) ∧ Hid (base ≤ wr.heap.size) ∧ Hid (Below wb.heap.size wb wr))
  case atStart => exact ⟨j0, x0, is0, [], v0, rfl, rfl, by omega, HG, HQ, HO, HL3, HB⟩
  case round =>
    clear HG HQ HO HL3 HB
    obtain ⟨j, x, is, acc, v, rfl, rfl, hk, HG, HQ, HO, HL3, HB⟩ := hrel
    cases j with
    | zero => exact absurd HG.out (by simp [slackGo])
    | succ j =>
      have hg := HG.out
      unfold slackGo at hg
      cases is with
      | false =>
        rw [if_neg (by decide)] at hg
        obtain rfl := Option.some.inj hg
        clear hg HG
        go_wp2
        try rw [Exit.noGoto_ret]
        go_ret
        exact ⟨rfl, ⟨v, HQ.out, HO.out⟩, HB.out⟩
      | true =>
        rw [if_pos rfl] at hg
        by_cases c : x ≤ p
        · rw [if_pos c] at hg
          have cb : decide (x ≤ p) = true := decide_eq_true c
          obtain ⟨n, hn, hg2⟩ := Option.bind_eq_some_iff.mp hg
          obtain ⟨⟨x', is'⟩, ht, hg3⟩ := Option.bind_eq_some_iff.mp hg2
          by_cases hl : acc.length < 10000000000000
          case neg => rw [if_neg hl] at hg3; cases hg3
          rw [if_pos hl] at hg3
          have HOF := Lib.hid hn
          have HNX := Lib.hid ht
          have HG3 := Lib.hid hg3
          have HLN := Lib.hid hl
          clear hg HG hg2 hg3 hn ht hl
          go_wp2_with (first
            | (go_at_call 84; refine (demand_Of.calls k A0 c0 l0 x n _ (Kd.C_below HR0.out HB.out) HC0.out HOF.out).mono ?_; rintro e w4 ⟨rfl, q1⟩; replace HQ := Lib.hid (blk_below HQ.out q1); replace HO := Lib.hid (PxR.own_below HO.out q1); replace HL3 := Lib.hid (Nat.le_trans HL3.out q1.size); replace HB := Lib.hid (below_step HB.out q1); clear q1)
            | (go_at_call 55; refine (slackApp.calls bs base x (wrap64 (x - n)) acc v _ HQ.out HO.out HL2.out HL3.out HLN.out).mono ?_; rintro e w5 ⟨rfl, ⟨v', q2, q3⟩, q4⟩; have HQ5 := Lib.hid q2; have HO5 := Lib.hid (show w5.ownsRow base 2 1 v' (acc ++ [wrap64 (x - n)]).length ((acc ++ [wrap64 (x - n)]).map (Value.int .i64)) from (by rw [List.length_append]; exact q3)); replace HL3 := Lib.hid (Nat.le_trans HL3.out (q4 _ HBS.out).size); replace HB := Lib.hid (HB.out.trans (q4 _ HBS.out)); clear q2 q3 q4)
            | (go_at_call 83; refine (demand_Next.calls k A0 c0 l0 x x' is' _ (Kd.C_below HR0.out HB.out) HC0.out HNX.out).mono ?_; rintro e w6 ⟨rfl, q1⟩; have HQ6 := Lib.hid (blk_below HQ5.out q1); have HO6 := Lib.hid (PxR.own_below HO5.out q1); replace HL3 := Lib.hid (Nat.le_trans HL3.out q1.size); replace HB := Lib.hid (below_step HB.out q1); clear q1))
          go_roundg (j + 1)
          case measure => omega
          case rel => exact ⟨j, x', is', acc ++ [wrap64 (x - n)], v', rfl, rfl, by omega, HG3, HQ6, HO6, HL3, HB⟩
        · rw [if_neg c] at hg
          have cb : decide (x ≤ p) = false := decide_eq_false c
          obtain rfl := Option.some.inj hg
          clear hg HG
          go_wp2
          try rw [Exit.noGoto_ret]
          go_ret
          exact ⟨rfl, ⟨v, HQ.out, HO.out⟩, HB.out⟩
-- probe_may probe_fits slices_Clone_api_Task param_Period demand_Next demand_Of slices_Min__int64_int64
def probe_Slack.f (k : Nat) (l0 : List S28) : Option Int := (probe_fits.f k l0).bind fun b => if b = true then (param_Period.f k l0).bind fun t => (demand_Next.f k l0 0).bind fun u => (slackGo k l0 t.1 k u.1 u.2 []).bind fun all => if all.length = 0 then some t.1 else (slices_Min__int64_int64.f k all).bind fun m => some (if m < t.1 then m else t.1) else some 0
theorem probe_Slack.mono : ∀ a0 k, LeO (probe_Slack.f k a0) (probe_Slack.f (k + 1) a0) := by
  intro a0 k
  unfold probe_Slack.f
  exact LeO.bind (probe_fits.mono _ k) (fun b => LeO.ite (LeO.bind (param_Period.mono _ k) (fun t => LeO.bind (demand_Next.mono _ _ k) (fun u => LeO.bind (slackGo_mono k _ _ k _ _ _) (fun all => LeO.ite (LeO.refl _) (LeO.bind (slices_Min__int64_int64.mono _ k) (fun _ => LeO.refl _)))))) (LeO.refl _))
theorem own_Ci {W : World} {base : Nat} {A : Option Addr} {n c : Nat} {xs : List Int} (h : W.ownsRow base 2 1 (.slice A n c) xs.length (xs.map (Value.int .i64))) (hn : n = xs.length) : Kd.C (Kd.int .i64) W A xs.length xs ∧ xs.length ≤ c := by
  subst hn
  have hr : Kd.R (Kd.int .i64) 2 W base (fun _ => True) (.slice A xs.length c) xs := Kd.R_of_own h (fun _ _ => trivial)
  exact ⟨(Kd.R_reads' hr).2.2, (Kd.R_reads' hr).2.1⟩
set_option maxHeartbeats 8000000 in
set_option maxRecDepth 100000 in
theorem probe_Slack.calls (k : Nat) (A0 : Option Addr) (c0 : Nat) (l0 : List S28) (r : Int) (w : World) (hr0 : Kd.C k28 w A0 l0.length l0) (hc0 : l0.length ≤ c0) (h : probe_Slack.f k l0 = some r) :
    Calls Try.prog 23 #[.slice A0 l0.length c0] w fun e w' => e = .returned (.int .i64 r) ∧ Below w.heap.size w w' := by
  unfold probe_Slack.f at h
  obtain ⟨b, hb, h1⟩ := Option.bind_eq_some_iff.mp h
  have HFT := Lib.hid hb
  have HR0 := Lib.hid hr0
  have HC0 := Lib.hid hc0
  cases b with
  | false =>
    rw [if_neg (by decide)] at h1
    obtain rfl := Option.some.inj h1
    clear h h1 hb hr0 hc0
    go_enter Try.func23, Try.ntmps23
    go_wp2_with (go_at_call 53; refine (probe_fits.calls k A0 c0 l0 false _ HR0.out HC0.out HFT.out).mono ?_; rintro e w1 ⟨rfl, q1⟩; have HB1 := Lib.hid q1; clear q1)
    go_ret
    exact ⟨rfl, HB1.out⟩
  | true =>
    rw [if_pos rfl] at h1
    obtain ⟨⟨p, e0⟩, hp, h2⟩ := Option.bind_eq_some_iff.mp h1
    obtain ⟨⟨x0, is0⟩, hn, h3⟩ := Option.bind_eq_some_iff.mp h2
    obtain ⟨all, hg, h4⟩ := Option.bind_eq_some_iff.mp h3
    have HP := Lib.hid hp
    have HN := Lib.hid hn
    have HG := Lib.hid hg
    have H4 := Lib.hid h4
    clear h h1 h2 h3 h4 hb hr0 hc0 hp hn hg
    go_enter Try.func23, Try.ntmps23
    go_wp2_with (go_at_call 53; refine (probe_fits.calls k A0 c0 l0 true _ HR0.out HC0.out HFT.out).mono ?_; rintro e w1 ⟨rfl, q1⟩; have HB1 := Lib.hid q1; clear q1)
    obtain ⟨W, hW⟩ : ∃ W, w1.alloc (.cells #[.slice none 0 0] 43) = W := ⟨_, rfl⟩
    obtain ⟨bs, hbs⟩ : ∃ b, w1.heap.size = b := ⟨_, rfl⟩
    have HQ : Hid (W.heap[bs]? = some (.cells #[.slice none 0 0] 43 (0, 0))) := by rw [← hW, ← hbs]; exact heap_alloc_new w1 _
    have HB : Hid (Below w.heap.size w W) := by rw [← hW]; exact below_alloc HB1.out _
    have HSZ : Hid (bs + 1 ≤ W.heap.size) := by rw [← hW, World.size_alloc, hbs]; exact Nat.le_refl _
    have HWB : Hid (w.heap.size ≤ bs) := by rw [← hbs]; exact HB1.out.size
    rw [hW, hbs]
    clear hW hbs HB1
    have h4 := H4.out
    by_cases ha : all.length = 0
    · rw [if_pos ha] at h4
      obtain rfl := Option.some.inj h4
      have hab : ((all.length : Int) == 0) = true := by rw [ha]; rfl
      clear h4 H4
      go_wp2_with (go_at_call 54; refine (eachS.calls k k A0 c0 l0 p e0 x0 is0 all bs (bs + 1) (.slice none 0 0) W w HR0.out HC0.out HB.out HWB.out HQ.out (own_nil _ _ _ _) (Nat.lt_succ_self _) HSZ.out HP.out HN.out HG.out).mono ?_; rintro e w2 ⟨rfl, ⟨v', q2, q3⟩, q4⟩; obtain ⟨A1, c1, rfl⟩ := own_slice q3; have HC1 := Lib.hid (own_Ci q3 rfl).1; have HC2 := Lib.hid (own_Ci q3 rfl).2; have cq := (blk_cell q2 0).trans rfl; have HB2 := Lib.hid q4; clear q2 q3 q4)
      go_ret
      exact ⟨rfl, HB2.out⟩
    · rw [if_neg ha] at h4
      obtain ⟨m, hm, h5⟩ := Option.bind_eq_some_iff.mp h4
      obtain rfl := Option.some.inj h5
      have hab : ((all.length : Int) == 0) = false := by simp only [beq_eq_false_iff_ne]; omega
      have HM := Lib.hid hm
      clear h4 H4 h5 hm
      by_cases hmp : m < p
      · skip
        go_wp2_with (first
          | (go_at_call 54; refine (eachS.calls k k A0 c0 l0 p e0 x0 is0 all bs (bs + 1) (.slice none 0 0) W w HR0.out HC0.out HB.out HWB.out HQ.out (own_nil _ _ _ _) (Nat.lt_succ_self _) HSZ.out HP.out HN.out HG.out).mono ?_; rintro e w2 ⟨rfl, ⟨v', q2, q3⟩, q4⟩; obtain ⟨A1, c1, rfl⟩ := own_slice q3; have HC1 := Lib.hid (own_Ci q3 rfl).1; have HC2 := Lib.hid (own_Ci q3 rfl).2; have cq := (blk_cell q2 0).trans rfl; have HB2 := Lib.hid q4; clear q2 q3 q4)
          | (go_at_call 56; refine (slices_Min__int64_int64.calls k A1 c1 all m _ HC1.out HC2.out HM.out).mono ?_; rintro e w3 ⟨rfl, q1⟩; have HB3 := Lib.hid (below_step HB2.out q1); clear q1))
        go_ret
        exact ⟨by first | (rw [if_pos hmp]; rfl) | rfl, HB3.out⟩
      · skip
        go_wp2_with (first
          | (go_at_call 54; refine (eachS.calls k k A0 c0 l0 p e0 x0 is0 all bs (bs + 1) (.slice none 0 0) W w HR0.out HC0.out HB.out HWB.out HQ.out (own_nil _ _ _ _) (Nat.lt_succ_self _) HSZ.out HP.out HN.out HG.out).mono ?_; rintro e w2 ⟨rfl, ⟨v', q2, q3⟩, q4⟩; obtain ⟨A1, c1, rfl⟩ := own_slice q3; have HC1 := Lib.hid (own_Ci q3 rfl).1; have HC2 := Lib.hid (own_Ci q3 rfl).2; have cq := (blk_cell q2 0).trans rfl; have HB2 := Lib.hid q4; clear q2 q3 q4)
          | (go_at_call 56; refine (slices_Min__int64_int64.calls k A1 c1 all m _ HC1.out HC2.out HM.out).mono ?_; rintro e w3 ⟨rfl, q1⟩; have HB3 := Lib.hid (below_step HB2.out q1); clear q1))
        go_ret
        exact ⟨by first | (rw [if_neg hmp]; rfl) | rfl, HB3.out⟩

/-! ### w26_awake: function 18 -/
def w26_awake.f (k : Nat)  : Option (Bool) := (some (([(⟨1, 1, 4, 4, 1⟩ : S28), (⟨2, 2, 4, 4, 1⟩ : S28)] : List (S28)) : List (S28))).bind fun y145 => ((probe_MostC.f k y145 0).bind fun t148 => (if t148 = 2 then ((probe_Slack.f k y145).bind fun t149 => (some (t149 == 1))) else (some false)))
theorem w26_awake.mono : ∀ k, LeO (w26_awake.f k ) (w26_awake.f (k + 1) ) := by
  intro  k
  unfold w26_awake.f
  repeat' first
      | (with_reducible exact probe_MostC.mono _ _ _)
      | (with_reducible exact probe_Slack.mono _ _)
      | (with_reducible exact LeO.refl _)
      | (with_reducible exact LeO.none _)
      | (with_reducible refine LeO.ite ?_ ?_)
      | (with_reducible refine LeO.bind ?_ (fun _ => ?_))
      | exact probe_MostC.mono _ _ _
      | exact probe_Slack.mono _ _
      | exact LeO.none _
      | refine LeO.ite ?_ ?_
      | refine LeO.bind ?_ (fun _ => ?_)
set_option maxHeartbeats 8000000 in
set_option maxRecDepth 100000 in
theorem w26_awake.calls (k : Nat)  (r : Bool) (w : World) (h : w26_awake.f k  = some r) :
    Calls Try.prog 18 #[] w fun e w' => e = .returned (.bool r) ∧ Below w.heap.size w w' := by
  have hu28 := Try.underlying28
  have HB := Aside0.mk (Below.refl w.heap.size w)
  have H : ((some (([(⟨1, 1, 4, 4, 1⟩ : S28), (⟨2, 2, 4, 4, 1⟩ : S28)] : List (S28)) : List (S28))).bind fun y145 => ((probe_MostC.f k y145 0).bind fun t148 => (if t148 = 2 then ((probe_Slack.f k y145).bind fun t149 => (some (t149 == 1))) else (some false)))) = some r := h
  clear h
  obtain ⟨y145, hy145⟩ : ∃ y_ : List (S28), y_ = (([(⟨1, 1, 4, 4, 1⟩ : S28), (⟨2, 2, 4, 4, 1⟩ : S28)] : List (S28))) := ⟨_, rfl⟩
  replace H : ((probe_MostC.f k y145 0).bind fun t148 => (if t148 = 2 then ((probe_Slack.f k y145).bind fun t149 => (some (t149 == 1))) else (some false))) = some r := by first | (rw [hy145]; with_reducible exact H) | (have H2_ := (Option.bind_some _ _).symm.trans H; rw [hy145]; with_reducible exact H2_) | (have H2_ := (Option.bind_some _ _).symm.trans H; with_reducible exact H2_) | with_reducible exact H | (rw [hy145]; exact H) | exact H
  have Ny145 := Aside0.mk hy145
  clear hy145
  replace H := Option.bind_eq_some_iff.mp H
  obtain ⟨t148, A10, H⟩ := H
  replace H : (if t148 = 2 then ((probe_Slack.f k y145).bind fun t149 => (some (t149 == 1))) else (some false)) = some r := H
  have A1 := Aside0.mk A10
  clear A10
  by_cases c2 : t148 = 2
  · rw [if_pos c2] at H
    have c2b0 : (t148 == 2) = true := beq_iff_eq.mpr c2
    have c2b1 : (t148 != 2) = false := bne_eq_false_iff_eq.mpr c2
    clear c2
    replace H := Option.bind_eq_some_iff.mp H
    obtain ⟨t149, A30, H⟩ := H
    replace H : (some (t149 == 1)) = some r := H
    have A3 := Aside0.mk A30
    clear A30
    obtain rfl := Option.some.inj H
    go_enter Try.func18, Try.ntmps18
    go_wp2_with (first | ((with_reducible refine gate_dst (N := 4) rfl ?_); refine Kd.R_lit k28 _ 28 ?hg (N := 4) ?hd (xs := ([(⟨1, 1, 4, 4, 1⟩ : S28), (⟨2, 2, 4, 4, 1⟩ : S28)] : List (S28))) (inner := [.int .i64 1, .int .i64 1, .int .i64 4, .int .i64 4, .int .i64 1, .int .i64 2, .int .i64 2, .int .i64 4, .int .i64 4, .int .i64 1]) (ok := fun _ => True) (okp := fun _ => True) ?hr ?hp (fun _ hk => hk) trivial (Below.refl _ _) (Nat.le_refl _) (by simp) ?_; (case hd => rfl); (case hg => rfl); (case hr => first | (go_simp; done) | (go_simp; rfl)); (case hp => exact (Reps.c5 (show Kd.M k28 _ _ _ (⟨1, 1, 4, 4, 1⟩ : S28) [.int .i64 1, .int .i64 1, .int .i64 4, .int .i64 4, .int .i64 1] from (k28_mkM _ _ _ (⟨1, 1, 4, 4, 1⟩ : S28) )) (Reps.c5 (show Kd.M k28 _ _ _ (⟨2, 2, 4, 4, 1⟩ : S28) [.int .i64 2, .int .i64 2, .int .i64 4, .int .i64 4, .int .i64 1] from (k28_mkM _ _ _ (⟨2, 2, 4, 4, 1⟩ : S28) )) (Reps.none _ _)))); intro v146 w4 ho5 hb hg_ hnew_; clear hg_ hnew_; (first | rw [← Ny145.out] at ho5 | (simp only [Int.reduceToNat] at ho5; rw [← Ny145.out] at ho5)); have n0_ := Aside0.mk (Kd.R_lower ho5 (below_size (by repeat (first | (with_reducible first | exact HB.out | apply below_alloc | apply pw_below_drewN | apply below_drew1) | exact HB.out)))); have n1_ := Aside0.mk (below_step (by repeat (first | (with_reducible first | exact HB.out | apply below_alloc | apply pw_below_drewN | apply below_drew1) | exact HB.out)) hb); clear HB; have HO147 := n0_; have HB := n1_; clear n0_ n1_; clear hb ho5; obtain ⟨Ao6, co6, eo6⟩ := Kd.R_slice HO147.out; subst eo6) | ((with_reducible refine gate_callee (f := 20) rfl ?_); refine goesL_ (some 6) rfl rfl Try.func20 (by kernel_rfl) rfl #[.slice Ao6 y145.length co6, .int .i64 0] rfl (by (try simp only [List.map_toArray, List.map_cons, List.map_nil]); first | done | rfl | (simp only [List.length_drop, List.length_take]; rfl)) ?_; (with_reducible refine (probe_MostC.calls k _ _ y145 0 t148 _ ?side1 ?side2 A1.out).mono ?_); (case side1 => repeat (first | exact (Kd.R_reads' HO147.out).2.2 | (with_reducible refine Kd.C_alloc ?_ _) | (with_reducible refine Kd.C_drewN ?_ _) | (with_reducible refine Kd.C_drew ?_))); (case side2 => exact (Kd.R_reads' HO147.out).2.1); rintro e w7 ⟨rfl, hb⟩; refine ⟨_, rfl, ?_⟩; have n0_ := Aside0.mk (Kd.R_below (by (with_reducible repeat (first | apply Kd.R_alloc | apply Kd.R_drewN | apply Kd.R_drew)); exact HO147.out) hb); have n1_ := Aside0.mk (below_step (by repeat (first | (with_reducible first | exact HB.out | apply below_alloc | apply pw_below_drewN | apply below_drew1) | exact HB.out)) hb); clear HO147; clear HB; have HO147 := n0_; have HB := n1_; clear n0_ n1_; (try clear hb); (try clear hb2); (try clear hk); (try clear hi)) | (go_at_call 23; (with_reducible refine (probe_Slack.calls k _ _ y145 t149 _ ?side1 ?side2 A3.out).mono ?_); (case side1 => repeat (first | exact (Kd.R_reads' HO147.out).2.2 | (with_reducible refine Kd.C_alloc ?_ _) | (with_reducible refine Kd.C_drewN ?_ _) | (with_reducible refine Kd.C_drew ?_))); (case side2 => exact (Kd.R_reads' HO147.out).2.1); rintro e w8 ⟨rfl, hb⟩; have n0_ := Aside0.mk (Kd.R_below (by (with_reducible repeat (first | apply Kd.R_alloc | apply Kd.R_drewN | apply Kd.R_drew)); exact HO147.out) hb); have n1_ := Aside0.mk (below_step (by repeat (first | (with_reducible first | exact HB.out | apply below_alloc | apply pw_below_drewN | apply below_drew1) | exact HB.out)) hb); clear HO147; clear HB; have HO147 := n0_; have HB := n1_; clear n0_ n1_; (try clear hb); (try clear hb2); (try clear hk); (try clear hi)))
    go_ret
    exact ⟨by first | rfl | (simp [errW_none, errW_some] <;> rfl) | (simp [*, errW_none, errW_some] <;> rfl), by repeat (first | (with_reducible first | exact HB.out | apply below_alloc | apply pw_below_drewN | apply below_drew1) | exact HB.out)⟩
  · rw [if_neg c2] at H
    have c2b0 : (t148 == 2) = false := beq_eq_false_iff_ne.mpr c2
    have c2b1 : (t148 != 2) = true := bne_iff_ne.mpr c2
    obtain rfl := Option.some.inj H
    go_enter Try.func18, Try.ntmps18
    go_wp2_with (first | ((with_reducible refine gate_dst (N := 4) rfl ?_); refine Kd.R_lit k28 _ 28 ?hg (N := 4) ?hd (xs := ([(⟨1, 1, 4, 4, 1⟩ : S28), (⟨2, 2, 4, 4, 1⟩ : S28)] : List (S28))) (inner := [.int .i64 1, .int .i64 1, .int .i64 4, .int .i64 4, .int .i64 1, .int .i64 2, .int .i64 2, .int .i64 4, .int .i64 4, .int .i64 1]) (ok := fun _ => True) (okp := fun _ => True) ?hr ?hp (fun _ hk => hk) trivial (Below.refl _ _) (Nat.le_refl _) (by simp) ?_; (case hd => rfl); (case hg => rfl); (case hr => first | (go_simp; done) | (go_simp; rfl)); (case hp => exact (Reps.c5 (show Kd.M k28 _ _ _ (⟨1, 1, 4, 4, 1⟩ : S28) [.int .i64 1, .int .i64 1, .int .i64 4, .int .i64 4, .int .i64 1] from (k28_mkM _ _ _ (⟨1, 1, 4, 4, 1⟩ : S28) )) (Reps.c5 (show Kd.M k28 _ _ _ (⟨2, 2, 4, 4, 1⟩ : S28) [.int .i64 2, .int .i64 2, .int .i64 4, .int .i64 4, .int .i64 1] from (k28_mkM _ _ _ (⟨2, 2, 4, 4, 1⟩ : S28) )) (Reps.none _ _)))); intro v146 w9 ho10 hb hg_ hnew_; clear hg_ hnew_; (first | rw [← Ny145.out] at ho10 | (simp only [Int.reduceToNat] at ho10; rw [← Ny145.out] at ho10)); have n0_ := Aside0.mk (Kd.R_lower ho10 (below_size (by repeat (first | (with_reducible first | exact HB.out | apply below_alloc | apply pw_below_drewN | apply below_drew1) | exact HB.out)))); have n1_ := Aside0.mk (below_step (by repeat (first | (with_reducible first | exact HB.out | apply below_alloc | apply pw_below_drewN | apply below_drew1) | exact HB.out)) hb); clear HB; have HO147 := n0_; have HB := n1_; clear n0_ n1_; clear hb ho10; obtain ⟨Ao11, co11, eo11⟩ := Kd.R_slice HO147.out; subst eo11) | ((with_reducible refine gate_callee (f := 20) rfl ?_); refine goesL_ (some 6) rfl rfl Try.func20 (by kernel_rfl) rfl #[.slice Ao11 y145.length co11, .int .i64 0] rfl (by (try simp only [List.map_toArray, List.map_cons, List.map_nil]); first | done | rfl | (simp only [List.length_drop, List.length_take]; rfl)) ?_; (with_reducible refine (probe_MostC.calls k _ _ y145 0 t148 _ ?side1 ?side2 A1.out).mono ?_); (case side1 => repeat (first | exact (Kd.R_reads' HO147.out).2.2 | (with_reducible refine Kd.C_alloc ?_ _) | (with_reducible refine Kd.C_drewN ?_ _) | (with_reducible refine Kd.C_drew ?_))); (case side2 => exact (Kd.R_reads' HO147.out).2.1); rintro e w12 ⟨rfl, hb⟩; refine ⟨_, rfl, ?_⟩; have n0_ := Aside0.mk (Kd.R_below (by (with_reducible repeat (first | apply Kd.R_alloc | apply Kd.R_drewN | apply Kd.R_drew)); exact HO147.out) hb); have n1_ := Aside0.mk (below_step (by repeat (first | (with_reducible first | exact HB.out | apply below_alloc | apply pw_below_drewN | apply below_drew1) | exact HB.out)) hb); clear HO147; clear HB; have HO147 := n0_; have HB := n1_; clear n0_ n1_; (try clear hb); (try clear hb2); (try clear hk); (try clear hi)))
    go_ret
    exact ⟨by first | rfl | (simp [errW_none, errW_some] <;> rfl) | (simp [*, errW_none, errW_some] <;> rfl), by repeat (first | (with_reducible first | exact HB.out | apply below_alloc | apply pw_below_drewN | apply below_drew1) | exact HB.out)⟩

/-! ### r09_Check: function 35 -/
def r09_Check.f (a0_0 : Int) (a0_1 : Int) (a0_2 : Int) (a0_3 : Int) (a0_4 : Int) : Option (Bool) := if a0_0 ≥ 0 then (if a0_0 ≤ 1023 then (if a0_1 ≥ 1 then (if a0_1 ≤ a0_2 then (if a0_2 ≤ a0_3 then (if a0_3 ≤ 2147483648 then (if a0_4 ≥ 1 then (some (decide (a0_4 ≤ 15))) else (some false)) else (some false)) else (some false)) else (some false)) else (some false)) else (some false)) else (some false)
set_option maxHeartbeats 8000000 in
set_option maxRecDepth 100000 in
theorem r09_Check.calls (a0_0 : Int) (a0_1 : Int) (a0_2 : Int) (a0_3 : Int) (a0_4 : Int) (r : Bool) (w : World) (h : r09_Check.f a0_0 a0_1 a0_2 a0_3 a0_4 = some r) :
    Calls Try.prog 35 #[.agg #[.int .i64 a0_0, .int .i64 a0_1, .int .i64 a0_2, .int .i64 a0_3, .int .i64 a0_4]] w fun e w' => e = .returned (.bool r) ∧ Below w.heap.size w w' := by
  have hu28 := Try.underlying28
  have HB := Aside0.mk (Below.refl w.heap.size w)
  have H : (if a0_0 ≥ 0 then (if a0_0 ≤ 1023 then (if a0_1 ≥ 1 then (if a0_1 ≤ a0_2 then (if a0_2 ≤ a0_3 then (if a0_3 ≤ 2147483648 then (if a0_4 ≥ 1 then (some (decide (a0_4 ≤ 15))) else (some false)) else (some false)) else (some false)) else (some false)) else (some false)) else (some false)) else (some false)) = some r := h
  clear h
  by_cases c2 : a0_0 ≥ 0
  · rw [if_pos c2] at H
    have c2b0 : decide (0 ≤ a0_0) = true := decide_eq_true c2
    clear c2
    by_cases c3 : a0_0 ≤ 1023
    · rw [if_pos c3] at H
      have c3b0 : decide (a0_0 ≤ 1023) = true := decide_eq_true c3
      clear c3
      by_cases c4 : a0_1 ≥ 1
      · rw [if_pos c4] at H
        have c4b0 : decide (1 ≤ a0_1) = true := decide_eq_true c4
        clear c4
        by_cases c5 : a0_1 ≤ a0_2
        · rw [if_pos c5] at H
          have c5b0 : decide (a0_1 ≤ a0_2) = true := decide_eq_true c5
          clear c5
          by_cases c6 : a0_2 ≤ a0_3
          · rw [if_pos c6] at H
            have c6b0 : decide (a0_2 ≤ a0_3) = true := decide_eq_true c6
            clear c6
            by_cases c7 : a0_3 ≤ 2147483648
            · rw [if_pos c7] at H
              have c7b0 : decide (a0_3 ≤ 2147483648) = true := decide_eq_true c7
              clear c7
              by_cases c8 : a0_4 ≥ 1
              · rw [if_pos c8] at H
                have c8b0 : decide (1 ≤ a0_4) = true := decide_eq_true c8
                clear c8
                obtain rfl := Option.some.inj H
                go_enter Try.func35, Try.ntmps35
                go_wp2_with (first | ((with_reducible refine gate_dst (N := 1) rfl ?_); refine box_event ?hg (N := 1) ?hd (cs := #[.int .i64 a0_0, .int .i64 a0_1, .int .i64 a0_2, .int .i64 a0_3, .int .i64 a0_4]) (t := 28) ?hr ?_; (case hd => rfl); (case hg => rfl); (case hr => first | (go_simp; done) | (go_simp; rfl)); intro gb150 hg w9 hbox hb; have n0_ := Aside0.mk (below_step (by repeat (first | (with_reducible first | exact HB.out | apply below_alloc | apply pw_below_drewN | apply below_drew1) | exact HB.out)) hb); have n1_ := Aside0.mk (hbox); have n2_ := Aside0.mk ((by rw [hg]; exact (below_size (by repeat (first | (with_reducible first | exact HB.out | apply below_alloc | apply pw_below_drewN | apply below_drew1) | exact HB.out))) : w.heap.size ≤ gb150)); have n3_ := Aside0.mk ((by rw [hg]; exact (below_size (by repeat (first | (with_reducible first | exact HB.out | apply below_alloc | apply pw_below_drewN | apply below_drew1) | exact HB.out))) : w.heap.size ≤ gb150)); clear HB; have HB := n0_; have BK150 := n1_; have GW150 := n2_; have GE150 := n3_; clear n0_ n1_ n2_ n3_; clear hb hbox hg; have hcz10_0 : w9.cell? ⟨gb150, 0, none⟩ = some (.int .i64 a0_0) := (blk_cell BK150.out 0).trans rfl; have hcz10_1 : w9.cell? ⟨gb150, 1, none⟩ = some (.int .i64 a0_1) := (blk_cell BK150.out 1).trans rfl; have hcz10_2 : w9.cell? ⟨gb150, 2, none⟩ = some (.int .i64 a0_2) := (blk_cell BK150.out 2).trans rfl; have hcz10_3 : w9.cell? ⟨gb150, 3, none⟩ = some (.int .i64 a0_3) := (blk_cell BK150.out 3).trans rfl; have hcz10_4 : w9.cell? ⟨gb150, 4, none⟩ = some (.int .i64 a0_4) := (blk_cell BK150.out 4).trans rfl; have hfz10_0 := blk_frozen BK150.out 0; have hfz10_1 := blk_frozen BK150.out 1; have hfz10_2 := blk_frozen BK150.out 2; have hfz10_3 := blk_frozen BK150.out 3; have hfz10_4 := blk_frozen BK150.out 4))
                go_ret
                exact ⟨by first | rfl | (simp [errW_none, errW_some] <;> rfl) | (simp [*, errW_none, errW_some] <;> rfl), by repeat (first | (with_reducible first | exact HB.out | apply below_alloc | apply pw_below_drewN | apply below_drew1 | refine below_set ?_ GE150.out) | exact HB.out)⟩
              · rw [if_neg c8] at H
                have c8b0 : decide (1 ≤ a0_4) = false := decide_eq_false c8
                clear c8
                obtain rfl := Option.some.inj H
                go_enter Try.func35, Try.ntmps35
                go_wp2_with (first | ((with_reducible refine gate_dst (N := 1) rfl ?_); refine box_event ?hg (N := 1) ?hd (cs := #[.int .i64 a0_0, .int .i64 a0_1, .int .i64 a0_2, .int .i64 a0_3, .int .i64 a0_4]) (t := 28) ?hr ?_; (case hd => rfl); (case hg => rfl); (case hr => first | (go_simp; done) | (go_simp; rfl)); intro gb150 hg w11 hbox hb; have n0_ := Aside0.mk (below_step (by repeat (first | (with_reducible first | exact HB.out | apply below_alloc | apply pw_below_drewN | apply below_drew1) | exact HB.out)) hb); have n1_ := Aside0.mk (hbox); have n2_ := Aside0.mk ((by rw [hg]; exact (below_size (by repeat (first | (with_reducible first | exact HB.out | apply below_alloc | apply pw_below_drewN | apply below_drew1) | exact HB.out))) : w.heap.size ≤ gb150)); have n3_ := Aside0.mk ((by rw [hg]; exact (below_size (by repeat (first | (with_reducible first | exact HB.out | apply below_alloc | apply pw_below_drewN | apply below_drew1) | exact HB.out))) : w.heap.size ≤ gb150)); clear HB; have HB := n0_; have BK150 := n1_; have GW150 := n2_; have GE150 := n3_; clear n0_ n1_ n2_ n3_; clear hb hbox hg; have hcz12_0 : w11.cell? ⟨gb150, 0, none⟩ = some (.int .i64 a0_0) := (blk_cell BK150.out 0).trans rfl; have hcz12_1 : w11.cell? ⟨gb150, 1, none⟩ = some (.int .i64 a0_1) := (blk_cell BK150.out 1).trans rfl; have hcz12_2 : w11.cell? ⟨gb150, 2, none⟩ = some (.int .i64 a0_2) := (blk_cell BK150.out 2).trans rfl; have hcz12_3 : w11.cell? ⟨gb150, 3, none⟩ = some (.int .i64 a0_3) := (blk_cell BK150.out 3).trans rfl; have hcz12_4 : w11.cell? ⟨gb150, 4, none⟩ = some (.int .i64 a0_4) := (blk_cell BK150.out 4).trans rfl; have hfz12_0 := blk_frozen BK150.out 0; have hfz12_1 := blk_frozen BK150.out 1; have hfz12_2 := blk_frozen BK150.out 2; have hfz12_3 := blk_frozen BK150.out 3; have hfz12_4 := blk_frozen BK150.out 4))
                go_ret
                exact ⟨by first | rfl | (simp [errW_none, errW_some] <;> rfl) | (simp [*, errW_none, errW_some] <;> rfl), by repeat (first | (with_reducible first | exact HB.out | apply below_alloc | apply pw_below_drewN | apply below_drew1 | refine below_set ?_ GE150.out) | exact HB.out)⟩
            · rw [if_neg c7] at H
              have c7b0 : decide (a0_3 ≤ 2147483648) = false := decide_eq_false c7
              clear c7
              obtain rfl := Option.some.inj H
              go_enter Try.func35, Try.ntmps35
              go_wp2_with (first | ((with_reducible refine gate_dst (N := 1) rfl ?_); refine box_event ?hg (N := 1) ?hd (cs := #[.int .i64 a0_0, .int .i64 a0_1, .int .i64 a0_2, .int .i64 a0_3, .int .i64 a0_4]) (t := 28) ?hr ?_; (case hd => rfl); (case hg => rfl); (case hr => first | (go_simp; done) | (go_simp; rfl)); intro gb150 hg w13 hbox hb; have n0_ := Aside0.mk (below_step (by repeat (first | (with_reducible first | exact HB.out | apply below_alloc | apply pw_below_drewN | apply below_drew1) | exact HB.out)) hb); have n1_ := Aside0.mk (hbox); have n2_ := Aside0.mk ((by rw [hg]; exact (below_size (by repeat (first | (with_reducible first | exact HB.out | apply below_alloc | apply pw_below_drewN | apply below_drew1) | exact HB.out))) : w.heap.size ≤ gb150)); have n3_ := Aside0.mk ((by rw [hg]; exact (below_size (by repeat (first | (with_reducible first | exact HB.out | apply below_alloc | apply pw_below_drewN | apply below_drew1) | exact HB.out))) : w.heap.size ≤ gb150)); clear HB; have HB := n0_; have BK150 := n1_; have GW150 := n2_; have GE150 := n3_; clear n0_ n1_ n2_ n3_; clear hb hbox hg; have hcz14_0 : w13.cell? ⟨gb150, 0, none⟩ = some (.int .i64 a0_0) := (blk_cell BK150.out 0).trans rfl; have hcz14_1 : w13.cell? ⟨gb150, 1, none⟩ = some (.int .i64 a0_1) := (blk_cell BK150.out 1).trans rfl; have hcz14_2 : w13.cell? ⟨gb150, 2, none⟩ = some (.int .i64 a0_2) := (blk_cell BK150.out 2).trans rfl; have hcz14_3 : w13.cell? ⟨gb150, 3, none⟩ = some (.int .i64 a0_3) := (blk_cell BK150.out 3).trans rfl; have hcz14_4 : w13.cell? ⟨gb150, 4, none⟩ = some (.int .i64 a0_4) := (blk_cell BK150.out 4).trans rfl; have hfz14_0 := blk_frozen BK150.out 0; have hfz14_1 := blk_frozen BK150.out 1; have hfz14_2 := blk_frozen BK150.out 2; have hfz14_3 := blk_frozen BK150.out 3; have hfz14_4 := blk_frozen BK150.out 4))
              go_ret
              exact ⟨by first | rfl | (simp [errW_none, errW_some] <;> rfl) | (simp [*, errW_none, errW_some] <;> rfl), by repeat (first | (with_reducible first | exact HB.out | apply below_alloc | apply pw_below_drewN | apply below_drew1 | refine below_set ?_ GE150.out) | exact HB.out)⟩
          · rw [if_neg c6] at H
            have c6b0 : decide (a0_2 ≤ a0_3) = false := decide_eq_false c6
            clear c6
            obtain rfl := Option.some.inj H
            go_enter Try.func35, Try.ntmps35
            go_wp2_with (first | ((with_reducible refine gate_dst (N := 1) rfl ?_); refine box_event ?hg (N := 1) ?hd (cs := #[.int .i64 a0_0, .int .i64 a0_1, .int .i64 a0_2, .int .i64 a0_3, .int .i64 a0_4]) (t := 28) ?hr ?_; (case hd => rfl); (case hg => rfl); (case hr => first | (go_simp; done) | (go_simp; rfl)); intro gb150 hg w15 hbox hb; have n0_ := Aside0.mk (below_step (by repeat (first | (with_reducible first | exact HB.out | apply below_alloc | apply pw_below_drewN | apply below_drew1) | exact HB.out)) hb); have n1_ := Aside0.mk (hbox); have n2_ := Aside0.mk ((by rw [hg]; exact (below_size (by repeat (first | (with_reducible first | exact HB.out | apply below_alloc | apply pw_below_drewN | apply below_drew1) | exact HB.out))) : w.heap.size ≤ gb150)); have n3_ := Aside0.mk ((by rw [hg]; exact (below_size (by repeat (first | (with_reducible first | exact HB.out | apply below_alloc | apply pw_below_drewN | apply below_drew1) | exact HB.out))) : w.heap.size ≤ gb150)); clear HB; have HB := n0_; have BK150 := n1_; have GW150 := n2_; have GE150 := n3_; clear n0_ n1_ n2_ n3_; clear hb hbox hg; have hcz16_0 : w15.cell? ⟨gb150, 0, none⟩ = some (.int .i64 a0_0) := (blk_cell BK150.out 0).trans rfl; have hcz16_1 : w15.cell? ⟨gb150, 1, none⟩ = some (.int .i64 a0_1) := (blk_cell BK150.out 1).trans rfl; have hcz16_2 : w15.cell? ⟨gb150, 2, none⟩ = some (.int .i64 a0_2) := (blk_cell BK150.out 2).trans rfl; have hcz16_3 : w15.cell? ⟨gb150, 3, none⟩ = some (.int .i64 a0_3) := (blk_cell BK150.out 3).trans rfl; have hcz16_4 : w15.cell? ⟨gb150, 4, none⟩ = some (.int .i64 a0_4) := (blk_cell BK150.out 4).trans rfl; have hfz16_0 := blk_frozen BK150.out 0; have hfz16_1 := blk_frozen BK150.out 1; have hfz16_2 := blk_frozen BK150.out 2; have hfz16_3 := blk_frozen BK150.out 3; have hfz16_4 := blk_frozen BK150.out 4))
            go_ret
            exact ⟨by first | rfl | (simp [errW_none, errW_some] <;> rfl) | (simp [*, errW_none, errW_some] <;> rfl), by repeat (first | (with_reducible first | exact HB.out | apply below_alloc | apply pw_below_drewN | apply below_drew1 | refine below_set ?_ GE150.out) | exact HB.out)⟩
        · rw [if_neg c5] at H
          have c5b0 : decide (a0_1 ≤ a0_2) = false := decide_eq_false c5
          clear c5
          obtain rfl := Option.some.inj H
          go_enter Try.func35, Try.ntmps35
          go_wp2_with (first | ((with_reducible refine gate_dst (N := 1) rfl ?_); refine box_event ?hg (N := 1) ?hd (cs := #[.int .i64 a0_0, .int .i64 a0_1, .int .i64 a0_2, .int .i64 a0_3, .int .i64 a0_4]) (t := 28) ?hr ?_; (case hd => rfl); (case hg => rfl); (case hr => first | (go_simp; done) | (go_simp; rfl)); intro gb150 hg w17 hbox hb; have n0_ := Aside0.mk (below_step (by repeat (first | (with_reducible first | exact HB.out | apply below_alloc | apply pw_below_drewN | apply below_drew1) | exact HB.out)) hb); have n1_ := Aside0.mk (hbox); have n2_ := Aside0.mk ((by rw [hg]; exact (below_size (by repeat (first | (with_reducible first | exact HB.out | apply below_alloc | apply pw_below_drewN | apply below_drew1) | exact HB.out))) : w.heap.size ≤ gb150)); have n3_ := Aside0.mk ((by rw [hg]; exact (below_size (by repeat (first | (with_reducible first | exact HB.out | apply below_alloc | apply pw_below_drewN | apply below_drew1) | exact HB.out))) : w.heap.size ≤ gb150)); clear HB; have HB := n0_; have BK150 := n1_; have GW150 := n2_; have GE150 := n3_; clear n0_ n1_ n2_ n3_; clear hb hbox hg; have hcz18_0 : w17.cell? ⟨gb150, 0, none⟩ = some (.int .i64 a0_0) := (blk_cell BK150.out 0).trans rfl; have hcz18_1 : w17.cell? ⟨gb150, 1, none⟩ = some (.int .i64 a0_1) := (blk_cell BK150.out 1).trans rfl; have hcz18_2 : w17.cell? ⟨gb150, 2, none⟩ = some (.int .i64 a0_2) := (blk_cell BK150.out 2).trans rfl; have hcz18_3 : w17.cell? ⟨gb150, 3, none⟩ = some (.int .i64 a0_3) := (blk_cell BK150.out 3).trans rfl; have hcz18_4 : w17.cell? ⟨gb150, 4, none⟩ = some (.int .i64 a0_4) := (blk_cell BK150.out 4).trans rfl; have hfz18_0 := blk_frozen BK150.out 0; have hfz18_1 := blk_frozen BK150.out 1; have hfz18_2 := blk_frozen BK150.out 2; have hfz18_3 := blk_frozen BK150.out 3; have hfz18_4 := blk_frozen BK150.out 4))
          go_ret
          exact ⟨by first | rfl | (simp [errW_none, errW_some] <;> rfl) | (simp [*, errW_none, errW_some] <;> rfl), by repeat (first | (with_reducible first | exact HB.out | apply below_alloc | apply pw_below_drewN | apply below_drew1 | refine below_set ?_ GE150.out) | exact HB.out)⟩
      · rw [if_neg c4] at H
        have c4b0 : decide (1 ≤ a0_1) = false := decide_eq_false c4
        clear c4
        obtain rfl := Option.some.inj H
        go_enter Try.func35, Try.ntmps35
        go_wp2_with (first | ((with_reducible refine gate_dst (N := 1) rfl ?_); refine box_event ?hg (N := 1) ?hd (cs := #[.int .i64 a0_0, .int .i64 a0_1, .int .i64 a0_2, .int .i64 a0_3, .int .i64 a0_4]) (t := 28) ?hr ?_; (case hd => rfl); (case hg => rfl); (case hr => first | (go_simp; done) | (go_simp; rfl)); intro gb150 hg w19 hbox hb; have n0_ := Aside0.mk (below_step (by repeat (first | (with_reducible first | exact HB.out | apply below_alloc | apply pw_below_drewN | apply below_drew1) | exact HB.out)) hb); have n1_ := Aside0.mk (hbox); have n2_ := Aside0.mk ((by rw [hg]; exact (below_size (by repeat (first | (with_reducible first | exact HB.out | apply below_alloc | apply pw_below_drewN | apply below_drew1) | exact HB.out))) : w.heap.size ≤ gb150)); have n3_ := Aside0.mk ((by rw [hg]; exact (below_size (by repeat (first | (with_reducible first | exact HB.out | apply below_alloc | apply pw_below_drewN | apply below_drew1) | exact HB.out))) : w.heap.size ≤ gb150)); clear HB; have HB := n0_; have BK150 := n1_; have GW150 := n2_; have GE150 := n3_; clear n0_ n1_ n2_ n3_; clear hb hbox hg; have hcz20_0 : w19.cell? ⟨gb150, 0, none⟩ = some (.int .i64 a0_0) := (blk_cell BK150.out 0).trans rfl; have hcz20_1 : w19.cell? ⟨gb150, 1, none⟩ = some (.int .i64 a0_1) := (blk_cell BK150.out 1).trans rfl; have hcz20_2 : w19.cell? ⟨gb150, 2, none⟩ = some (.int .i64 a0_2) := (blk_cell BK150.out 2).trans rfl; have hcz20_3 : w19.cell? ⟨gb150, 3, none⟩ = some (.int .i64 a0_3) := (blk_cell BK150.out 3).trans rfl; have hcz20_4 : w19.cell? ⟨gb150, 4, none⟩ = some (.int .i64 a0_4) := (blk_cell BK150.out 4).trans rfl; have hfz20_0 := blk_frozen BK150.out 0; have hfz20_1 := blk_frozen BK150.out 1; have hfz20_2 := blk_frozen BK150.out 2; have hfz20_3 := blk_frozen BK150.out 3; have hfz20_4 := blk_frozen BK150.out 4))
        go_ret
        exact ⟨by first | rfl | (simp [errW_none, errW_some] <;> rfl) | (simp [*, errW_none, errW_some] <;> rfl), by repeat (first | (with_reducible first | exact HB.out | apply below_alloc | apply pw_below_drewN | apply below_drew1 | refine below_set ?_ GE150.out) | exact HB.out)⟩
    · rw [if_neg c3] at H
      have c3b0 : decide (a0_0 ≤ 1023) = false := decide_eq_false c3
      clear c3
      obtain rfl := Option.some.inj H
      go_enter Try.func35, Try.ntmps35
      go_wp2_with (first | ((with_reducible refine gate_dst (N := 1) rfl ?_); refine box_event ?hg (N := 1) ?hd (cs := #[.int .i64 a0_0, .int .i64 a0_1, .int .i64 a0_2, .int .i64 a0_3, .int .i64 a0_4]) (t := 28) ?hr ?_; (case hd => rfl); (case hg => rfl); (case hr => first | (go_simp; done) | (go_simp; rfl)); intro gb150 hg w21 hbox hb; have n0_ := Aside0.mk (below_step (by repeat (first | (with_reducible first | exact HB.out | apply below_alloc | apply pw_below_drewN | apply below_drew1) | exact HB.out)) hb); have n1_ := Aside0.mk (hbox); have n2_ := Aside0.mk ((by rw [hg]; exact (below_size (by repeat (first | (with_reducible first | exact HB.out | apply below_alloc | apply pw_below_drewN | apply below_drew1) | exact HB.out))) : w.heap.size ≤ gb150)); have n3_ := Aside0.mk ((by rw [hg]; exact (below_size (by repeat (first | (with_reducible first | exact HB.out | apply below_alloc | apply pw_below_drewN | apply below_drew1) | exact HB.out))) : w.heap.size ≤ gb150)); clear HB; have HB := n0_; have BK150 := n1_; have GW150 := n2_; have GE150 := n3_; clear n0_ n1_ n2_ n3_; clear hb hbox hg; have hcz22_0 : w21.cell? ⟨gb150, 0, none⟩ = some (.int .i64 a0_0) := (blk_cell BK150.out 0).trans rfl; have hcz22_1 : w21.cell? ⟨gb150, 1, none⟩ = some (.int .i64 a0_1) := (blk_cell BK150.out 1).trans rfl; have hcz22_2 : w21.cell? ⟨gb150, 2, none⟩ = some (.int .i64 a0_2) := (blk_cell BK150.out 2).trans rfl; have hcz22_3 : w21.cell? ⟨gb150, 3, none⟩ = some (.int .i64 a0_3) := (blk_cell BK150.out 3).trans rfl; have hcz22_4 : w21.cell? ⟨gb150, 4, none⟩ = some (.int .i64 a0_4) := (blk_cell BK150.out 4).trans rfl; have hfz22_0 := blk_frozen BK150.out 0; have hfz22_1 := blk_frozen BK150.out 1; have hfz22_2 := blk_frozen BK150.out 2; have hfz22_3 := blk_frozen BK150.out 3; have hfz22_4 := blk_frozen BK150.out 4))
      go_ret
      exact ⟨by first | rfl | (simp [errW_none, errW_some] <;> rfl) | (simp [*, errW_none, errW_some] <;> rfl), by repeat (first | (with_reducible first | exact HB.out | apply below_alloc | apply pw_below_drewN | apply below_drew1 | refine below_set ?_ GE150.out) | exact HB.out)⟩
  · rw [if_neg c2] at H
    have c2b0 : decide (0 ≤ a0_0) = false := decide_eq_false c2
    clear c2
    obtain rfl := Option.some.inj H
    go_enter Try.func35, Try.ntmps35
    go_wp2_with (first | ((with_reducible refine gate_dst (N := 1) rfl ?_); refine box_event ?hg (N := 1) ?hd (cs := #[.int .i64 a0_0, .int .i64 a0_1, .int .i64 a0_2, .int .i64 a0_3, .int .i64 a0_4]) (t := 28) ?hr ?_; (case hd => rfl); (case hg => rfl); (case hr => first | (go_simp; done) | (go_simp; rfl)); intro gb150 hg w23 hbox hb; have n0_ := Aside0.mk (below_step (by repeat (first | (with_reducible first | exact HB.out | apply below_alloc | apply pw_below_drewN | apply below_drew1) | exact HB.out)) hb); have n1_ := Aside0.mk (hbox); have n2_ := Aside0.mk ((by rw [hg]; exact (below_size (by repeat (first | (with_reducible first | exact HB.out | apply below_alloc | apply pw_below_drewN | apply below_drew1) | exact HB.out))) : w.heap.size ≤ gb150)); have n3_ := Aside0.mk ((by rw [hg]; exact (below_size (by repeat (first | (with_reducible first | exact HB.out | apply below_alloc | apply pw_below_drewN | apply below_drew1) | exact HB.out))) : w.heap.size ≤ gb150)); clear HB; have HB := n0_; have BK150 := n1_; have GW150 := n2_; have GE150 := n3_; clear n0_ n1_ n2_ n3_; clear hb hbox hg; have hcz24_0 : w23.cell? ⟨gb150, 0, none⟩ = some (.int .i64 a0_0) := (blk_cell BK150.out 0).trans rfl; have hcz24_1 : w23.cell? ⟨gb150, 1, none⟩ = some (.int .i64 a0_1) := (blk_cell BK150.out 1).trans rfl; have hcz24_2 : w23.cell? ⟨gb150, 2, none⟩ = some (.int .i64 a0_2) := (blk_cell BK150.out 2).trans rfl; have hcz24_3 : w23.cell? ⟨gb150, 3, none⟩ = some (.int .i64 a0_3) := (blk_cell BK150.out 3).trans rfl; have hcz24_4 : w23.cell? ⟨gb150, 4, none⟩ = some (.int .i64 a0_4) := (blk_cell BK150.out 4).trans rfl; have hfz24_0 := blk_frozen BK150.out 0; have hfz24_1 := blk_frozen BK150.out 1; have hfz24_2 := blk_frozen BK150.out 2; have hfz24_3 := blk_frozen BK150.out 3; have hfz24_4 := blk_frozen BK150.out 4))
    go_ret
    exact ⟨by first | rfl | (simp [errW_none, errW_some] <;> rfl) | (simp [*, errW_none, errW_some] <;> rfl), by repeat (first | (with_reducible first | exact HB.out | apply below_alloc | apply pw_below_drewN | apply below_drew1 | refine below_set ?_ GE150.out) | exact HB.out)⟩

end Go.Proofs.Ytmgmpifbhjoijaa.PProbeReports
