-- Made by px.py (a program of this session, over the kit's printer) out of the translation. Not trusted: Lean checks it.
import Derived.Test.YtmgmpifbhjoijaaPProbeReportsx0
import Derived.Test.YtmgmpifbhjoijaaPProbeReportsx7
import Derived.Test.YtmgmpifbhjoijaaPProbeReportsx10
import Derived.Test.YtmgmpifbhjoijaaPProbeReportsx11
import Derived.Test.YtmgmpifbhjoijaaPProbeReportsx12
import Derived.Test.YtmgmpifbhjoijaaPProbeReportsx14
namespace Go.Proofs.Ytmgmpifbhjoijaa.PProbeReports
open Go.RowKit Go.Proofs.YtmgmpifbhjoijaaW.PrintWords Go.Proofs.YtmgmpifbhjoijaaW.PrintLast Go.Proofs.YtmgmpifbhjoijaaW.PrintMore
attribute [local go_sem] max2_int min2_int max_two min_two max_three min_three max_four min_four   -- for this text's walks alone
set_option linter.unusedVariables false
set_option linter.unusedSimpArgs false

/-! ### w26_ProbeReports: function 10 -/
mutual
def w26_ProbeReports.l0 : Nat → Bool → Bool → List (S28) → Int → List (S54) → Int → Option (Bool)
 | 0, _, _, _, _, _, _ => none
 | k + 1, x2, x7, x9, x10, x265000, x265001 => if x10 < (x9.length : Int) then (if 0 ≤ x10 then (if x265000.length < 2932031007402 then (w26_ProbeReports.l0 k x2 x7 x9 (wrap64 (x10 + 1)) (x265000 ++ [(⟨(⟨(rd_T28 x9 x10).f0, (rd_T28 x9 x10).f1, (rd_T28 x9 x10).f2, (rd_T28 x9 x10).f3, (rd_T28 x9 x10).f4⟩ : S28), false⟩ : S54)]) x265001) else (none)) else (none)) else (if x2 = true then (w26_ProbeReports.j1 k x7 (decide ((x9.length : Int) > 0)) x265000 x265001) else (w26_ProbeReports.j1 k x7 false x265000 x265001))
def w26_ProbeReports.j1 : Nat → Bool → Bool → List (S54) → Int → Option (Bool)
 | 0, _, _, _, _ => none
 | k + 1, x7, x42, x265000, x265001 => if x42 = true then (if 0 < (x265000.length : Int) then (if x265000.length < 2932031007402 then (w26_ProbeReports.j2 k x7 (x265000 ++ [(⟨(⟨(rd_T54 x265000 0).f0.f0, (rd_T54 x265000 0).f0.f1, (rd_T54 x265000 0).f0.f2, (rd_T54 x265000 0).f0.f3, (rd_T54 x265000 0).f0.f4⟩ : S28), (rd_T54 x265000 0).f1⟩ : S54)]) x265001) else (none)) else (none)) else (w26_ProbeReports.j2 k x7 x265000 x265001)
def w26_ProbeReports.j2 : Nat → Bool → List (S54) → Int → Option (Bool)
 | 0, _, _, _ => none
 | k + 1, x7, x265000, x265001 => (probe_Report.f k x265000 x265001).bind fun t276 => ((r26_Report.f k x265000 x265001).bind fun t279 => ((r26_Same.f k t276 t279).bind fun t282 => (if x7 = true then (some t282) else (some false))))
end
def w26_ProbeReports.f (k : Nat) (l0 : List (S22)) (a1 : Int) (a2 : Bool) : Option (Bool) := (w26_awake.f k).bind fun t263 => ((w26_made.f k l0 false).bind fun t265 => (w26_ProbeReports.l0 k a2 t263 t265 0 ([] : List (S54)) (wrap64 ((Int.tmod (wrap64 ((Int.tmod a1 6) + 6)) 6) - 1))))
theorem w26_ProbeReports.mono_l : ∀ k, (∀ y0 y1 y2 y3 y4 y5, LeO (w26_ProbeReports.l0 k y0 y1 y2 y3 y4 y5) (w26_ProbeReports.l0 (k + 1) y0 y1 y2 y3 y4 y5)) ∧ (∀ y0 y1 y2 y3, LeO (w26_ProbeReports.j1 k y0 y1 y2 y3) (w26_ProbeReports.j1 (k + 1) y0 y1 y2 y3)) ∧ (∀ y0 y1 y2, LeO (w26_ProbeReports.j2 k y0 y1 y2) (w26_ProbeReports.j2 (k + 1) y0 y1 y2))
 | 0 => ⟨fun _ _ _ _ _ _ r h => by simp [w26_ProbeReports.l0] at h, fun _ _ _ _ r h => by simp [w26_ProbeReports.j1] at h, fun _ _ _ r h => by simp [w26_ProbeReports.j2] at h⟩
 | k + 1 => by
  obtain ⟨ih0, ih1, ih2⟩ := w26_ProbeReports.mono_l k
  refine ⟨?_, ?_, ?_⟩
  ·intro y0 y1 y2 y3 y4 y5
   unfold w26_ProbeReports.l0
   repeat' first
   | (with_reducible exact ih0 _ _ _ _ _ _)
   | (with_reducible exact ih1 _ _ _ _)
   | (with_reducible exact ih2 _ _ _)
   | (with_reducible exact w26_awake.mono _)
   | (with_reducible exact w26_made.mono _ _ _)
   | (with_reducible exact r26_Report.mono _ _ _)
   | (with_reducible exact r26_Same.mono _ _ _)
   | (with_reducible exact probe_Report.mono _ _ _)
   | (with_reducible exact LeO.refl _)
   | (with_reducible exact LeO.none _)
   | (with_reducible refine LeO.ite ?_ ?_)
   | (with_reducible refine LeO.bind ?_ (fun _ => ?_))
   | exact ih0 _ _ _ _ _ _
   | exact ih1 _ _ _ _
   | exact ih2 _ _ _
   | exact w26_awake.mono _
   | exact w26_made.mono _ _ _
   | exact r26_Report.mono _ _ _
   | exact r26_Same.mono _ _ _
   | exact probe_Report.mono _ _ _
   | exact LeO.none _
   | refine LeO.ite ?_ ?_
   | refine LeO.bind ?_ (fun _ => ?_)
  ·intro y0 y1 y2 y3
   unfold w26_ProbeReports.j1
   repeat' first
   | (with_reducible exact ih0 _ _ _ _ _ _)
   | (with_reducible exact ih1 _ _ _ _)
   | (with_reducible exact ih2 _ _ _)
   | (with_reducible exact w26_awake.mono _)
   | (with_reducible exact w26_made.mono _ _ _)
   | (with_reducible exact r26_Report.mono _ _ _)
   | (with_reducible exact r26_Same.mono _ _ _)
   | (with_reducible exact probe_Report.mono _ _ _)
   | (with_reducible exact LeO.refl _)
   | (with_reducible exact LeO.none _)
   | (with_reducible refine LeO.ite ?_ ?_)
   | (with_reducible refine LeO.bind ?_ (fun _ => ?_))
   | exact ih0 _ _ _ _ _ _
   | exact ih1 _ _ _ _
   | exact ih2 _ _ _
   | exact w26_awake.mono _
   | exact w26_made.mono _ _ _
   | exact r26_Report.mono _ _ _
   | exact r26_Same.mono _ _ _
   | exact probe_Report.mono _ _ _
   | exact LeO.none _
   | refine LeO.ite ?_ ?_
   | refine LeO.bind ?_ (fun _ => ?_)
  ·intro y0 y1 y2
   unfold w26_ProbeReports.j2
   repeat' first
   | (with_reducible exact ih0 _ _ _ _ _ _)
   | (with_reducible exact ih1 _ _ _ _)
   | (with_reducible exact ih2 _ _ _)
   | (with_reducible exact w26_awake.mono _)
   | (with_reducible exact w26_made.mono _ _ _)
   | (with_reducible exact r26_Report.mono _ _ _)
   | (with_reducible exact r26_Same.mono _ _ _)
   | (with_reducible exact probe_Report.mono _ _ _)
   | (with_reducible exact LeO.refl _)
   | (with_reducible exact LeO.none _)
   | (with_reducible refine LeO.ite ?_ ?_)
   | (with_reducible refine LeO.bind ?_ (fun _ => ?_))
   | exact ih0 _ _ _ _ _ _
   | exact ih1 _ _ _ _
   | exact ih2 _ _ _
   | exact w26_awake.mono _
   | exact w26_made.mono _ _ _
   | exact r26_Report.mono _ _ _
   | exact r26_Same.mono _ _ _
   | exact probe_Report.mono _ _ _
   | exact LeO.none _
   | refine LeO.ite ?_ ?_
   | refine LeO.bind ?_ (fun _ => ?_)
theorem w26_ProbeReports.mono : ∀ a0 a1 a2 k, LeO (w26_ProbeReports.f k a0 a1 a2) (w26_ProbeReports.f (k + 1) a0 a1 a2) := by
 intro a0 a1 a2 k
 obtain ⟨ih0, ih1, ih2⟩ := w26_ProbeReports.mono_l k
 unfold w26_ProbeReports.f
 repeat' first
   | (with_reducible exact ih0 _ _ _ _ _ _)
   | (with_reducible exact ih1 _ _ _ _)
   | (with_reducible exact ih2 _ _ _)
   | (with_reducible exact w26_awake.mono _)
   | (with_reducible exact w26_made.mono _ _ _)
   | (with_reducible exact r26_Report.mono _ _ _)
   | (with_reducible exact r26_Same.mono _ _ _)
   | (with_reducible exact probe_Report.mono _ _ _)
   | (with_reducible exact LeO.refl _)
   | (with_reducible exact LeO.none _)
   | (with_reducible refine LeO.ite ?_ ?_)
   | (with_reducible refine LeO.bind ?_ (fun _ => ?_))
   | exact ih0 _ _ _ _ _ _
   | exact ih1 _ _ _ _
   | exact ih2 _ _ _
   | exact w26_awake.mono _
   | exact w26_made.mono _ _ _
   | exact r26_Report.mono _ _ _
   | exact r26_Same.mono _ _ _
   | exact probe_Report.mono _ _ _
   | exact LeO.none _
   | refine LeO.ite ?_ ?_
   | refine LeO.bind ?_ (fun _ => ?_)
def w26_ProbeReports.T7 : Bool × List (List Nat × List Nat) := (true, [([], []), ([0], [0]), ([], []), ([], []), ([2, 3], [2, 3]), ([4], [4]), ([5], [5]), ([6], [6]), ([1, 7], [1, 7]), ([0, 1, 2, 3, 4, 5, 6, 7, 8], []), ([9, 8, 8, 0, 1, 2, 3, 4, 5, 6, 7, 8], [8, 9])])
def w26_ProbeReports.B7 : List Nat := [0, 1, 0, 0, 12, 28, 60, 124, 255, 511, 1023]
theorem w26_ProbeReports.tab7 : rtab .any (opsOf Try.f10 7) = w26_ProbeReports.T7 := by kernel_rfl
theorem w26_ProbeReports.bits7 : waitsOk w26_ProbeReports.T7.2 w26_ProbeReports.B7 = true := by kernel_rfl
def w26_ProbeReports.T9 : Bool × List (List Nat × List Nat) := (true, [([], []), ([0], [0]), ([], []), ([2], [2]), ([3], [3]), ([4], [4]), ([5], [5]), ([1, 6], [1, 6]), ([0, 1, 2, 3, 4, 5, 6, 7], []), ([8, 7, 7, 0, 1, 2, 3, 4, 5, 6, 7], [7, 8])])
def w26_ProbeReports.B9 : List Nat := [0, 1, 0, 4, 12, 28, 60, 127, 255, 511]
theorem w26_ProbeReports.tab9 : rtab .any (opsOf Try.f10 9) = w26_ProbeReports.T9 := by kernel_rfl
theorem w26_ProbeReports.bits9 : waitsOk w26_ProbeReports.T9.2 w26_ProbeReports.B9 = true := by kernel_rfl
set_option maxHeartbeats 8000000 in
set_option maxRecDepth 100000 in
theorem w26_ProbeReports.calls (k : Nat) (A0 : Option Addr) (c0 : Nat) (l0 : List (S22)) (a1 : Int) (a2 : Bool) (r : Bool) (w : World) (hr0 : Kd.C k22 w A0 l0.length l0) (hc0 : l0.length ≤ c0) (h : w26_ProbeReports.f k l0 a1 a2 = some r) (hrt : r = true) :
  Calls Try.prog 10 #[.slice A0 l0.length c0, .int .i64 a1, .bool a2] w fun e w' => e = .returned (.bool r) ∧ Below w.heap.size w w' := by
 have HRT := Lib.hid hrt
 clear hrt
 have hu52 := Try.underlying52
 have hu28 := Try.underlying28
 have hu54 := Try.underlying54
 have HR0 := Aside0.mk hr0
 have HC0 := Aside0.mk hc0
 clear hr0 hc0
 have HB := Aside0.mk (Below.refl w.heap.size w)
 have H : ((w26_awake.f k).bind fun t263 => ((w26_made.f k l0 false).bind fun t265 => (w26_ProbeReports.l0 k a2 t263 t265 0 ([] : List (S54)) (wrap64 ((Int.tmod (wrap64 ((Int.tmod a1 6) + 6)) 6) - 1))))) = some r := h
 clear h
 replace H := Option.bind_eq_some_iff.mp H
 obtain ⟨t263, A40, H⟩ := H
 replace H : ((w26_made.f k l0 false).bind fun t265 => (w26_ProbeReports.l0 k a2 t263 t265 0 ([] : List (S54)) (wrap64 ((Int.tmod (wrap64 ((Int.tmod a1 6) + 6)) 6) - 1)))) = some r := H
 have A4 := Aside0.mk A40
 clear A40
 replace H := Option.bind_eq_some_iff.mp H
 obtain ⟨t265, A50, H⟩ := H
 replace H : (w26_ProbeReports.l0 k a2 t263 t265 0 ([] : List (S54)) (wrap64 ((Int.tmod (wrap64 ((Int.tmod a1 6) + 6)) 6) - 1))) = some r := H
 have A5 := Aside0.mk A50
 clear A50
 have H' := Aside0.mk H
 clear H
 go_enter Try.func10, Try.ntmps10
 go_wp2_with (first | ((with_reducible refine gate_callee (f := 18) rfl ?_); refine goesL_ (some 12) rfl rfl Try.func18 (by kernel_rfl) rfl #[] rfl (by (try simp only [List.map_toArray, List.map_cons, List.map_nil]); first | done | rfl | (simp only [List.length_drop, List.length_take]; rfl)) ?_; (with_reducible refine (w26_awake.calls k  t263 _ A4.out).mono ?_); rintro e w6 ⟨rfl, hb⟩; refine ⟨_, rfl, ?_⟩; have n0_ := Aside0.mk (below_step (by repeat (first | (with_reducible first | exact HB.out | apply below_alloc | apply pw_below_drewN | apply below_drew1) | exact HB.out)) hb); clear HB; have HB := n0_; clear n0_; (try clear hb); (try clear hb2); (try clear hk); (try clear hi)) | ((with_reducible refine gate_dst (N := 8) rfl ?_); (try (refine gate_guard (by rfl) ?_; dsimp only)); refine box_event ?hg (N := 8) ?hd (cs := #[.slice none 0 0, .int .i64 0]) (t := 52) ?hr ?_; (case hd => rfl); (case hg => rfl); (case hr => first | (go_simp; done) | (go_simp; rfl)); intro gb264 hg w7 hbox hb; have n0_ := Aside0.mk (below_step (by repeat (first | (with_reducible first | exact HB.out | apply below_alloc | apply pw_below_drewN | apply below_drew1) | exact HB.out)) hb); have n1_ := Aside0.mk (hbox); have n2_ := Aside0.mk ((by rw [hg]; exact (below_size (by repeat (first | (with_reducible first | exact HB.out | apply below_alloc | apply pw_below_drewN | apply below_drew1) | exact HB.out))) : w.heap.size ≤ gb264)); have n3_ := Aside0.mk ((by rw [hg]; exact (below_size (by repeat (first | (with_reducible first | exact HB.out | apply below_alloc | apply pw_below_drewN | apply below_drew1) | exact HB.out))) : w.heap.size ≤ gb264)); clear HB; have HB := n0_; have BK264 := n1_; have GW264 := n2_; have GE264 := n3_; clear n0_ n1_ n2_ n3_; clear hb hbox hg; have hcz8_0 : w7.cell? ⟨gb264, 0, none⟩ = some (.slice none 0 0) := (blk_cell BK264.out 0).trans rfl; have hcz8_1 : w7.cell? ⟨gb264, 1, none⟩ = some (.int .i64 0) := (blk_cell BK264.out 1).trans rfl; have hfz8_0 := blk_frozen BK264.out 0; have hfz8_1 := blk_frozen BK264.out 1) | ((with_reducible refine gate_callee (f := 19) rfl ?_); refine goesL_ (some 20) rfl rfl Try.func19 (by kernel_rfl) rfl #[.slice A0 l0.length c0, .bool false] rfl (by (try simp only [List.map_toArray, List.map_cons, List.map_nil]); first | done | rfl | (simp only [List.length_drop, List.length_take]; rfl)) ?_; (with_reducible refine (w26_made.calls k _ _ l0 false t265 _ ?side1 ?side2 A5.out).mono ?_); (case side1 => exact Kd.C_below HR0.out (by repeat (first | (with_reducible first | exact HB.out | apply below_alloc | apply pw_below_drewN | apply below_drew1 | refine below_set ?_ GE264.out) | exact HB.out))); (case side2 => exact HC0.out); rintro e w9 ⟨v266, rfl, ho0, hb⟩; refine ⟨_, rfl, ?_⟩; have n0_ := Aside0.mk (Kd.R_lower ho0 (below_size (by repeat (first | (with_reducible first | exact HB.out | apply below_alloc | apply pw_below_drewN | apply below_drew1 | refine below_set ?_ GE264.out) | exact HB.out)))); have n1_ := Aside0.mk (blk_below (g := gb264) (o := .cells #[.slice none 0 0, .int .i64 (wrap64 ((Int.tmod (wrap64 ((Int.tmod a1 6) + 6)) 6) - 1))] 52 (0, 0)) (by (with_reducible repeat (first | refine blk_drewN ?_ _ | refine blk_drew ?_ | refine blk_alloc ?_ _)); refine blk_put (cs := #[.slice none 0 0, .int .i64 0]) ?_ 1 _ rfl; (with_reducible repeat (first | refine blk_drewN ?_ _ | refine blk_drew ?_ | refine blk_alloc ?_ _)); refine blk_put (cs := #[.slice none 0 0, .int .i64 0]) ?_ 0 _ rfl; (with_reducible repeat (first | refine blk_drewN ?_ _ | refine blk_drew ?_ | refine blk_alloc ?_ _)); exact BK264.out) hb); have n2_ := Aside0.mk (below_step (by repeat (first | (with_reducible first | exact HB.out | apply below_alloc | apply pw_below_drewN | apply below_drew1 | refine below_set ?_ GE264.out) | exact HB.out)) hb); clear BK264; clear HB; have HO267 := n0_; have BK264 := n1_; have HB := n2_; clear n0_ n1_ n2_; (try clear hb); (try clear hb2); (try clear hk); (try clear hi); (try clear ho0)))
 go_loopg [10] k (fun kq v10 w' => ∃ (x10_1 : Int) (x265000_1 : List (S54)) (u265000 : Value), v10 = .int .i64 x10_1 ∧ Aside0 (w26_ProbeReports.l0 kq a2 t263 t265 x10_1 x265000_1 (wrap64 ((Int.tmod (wrap64 ((Int.tmod a1 6) + 6)) 6) - 1)) = some r) ∧ Aside0 (kq ≤ k) ∧ Aside0 (Kd.R k28 28 w' w.heap.size (fun _ => True) v266 t265) ∧ Aside0 (Kd.R k54 54 w' w.heap.size (fun _ => True) u265000 x265000_1) ∧ Aside0 (w'.heap[gb264]? = some (.cells #[u265000, .int .i64 (wrap64 ((Int.tmod (wrap64 ((Int.tmod a1 6) + 6)) 6) - 1))] 52 (0, 0))) ∧ Aside0 (Below w.heap.size w w'))
 case atStart => exact ⟨(0), (([] : List (S54))), (.slice none 0 0), (by first | rfl | (simp; done) | (simp [*]; done)), H', ⟨Nat.le_refl _⟩, ⟨by (with_reducible repeat (first | apply Kd.R_alloc | apply Kd.R_drewN | apply Kd.R_drew)); exact HO267.out⟩, ⟨by first | exact Kd.R_nil _ _ _ _ _ | exact Kd.N_nil _ _ _ _ _ | exact Kd.V_nil _ _ _ _ _ | exact Kd.Q_nil _ _ _ _ _ | exact Kd.S_nil _ _ _ _ _⟩, ⟨by (with_reducible repeat (first | refine blk_drewN ?_ _ | refine blk_drew ?_ | refine blk_alloc ?_ _)); exact BK264.out⟩, ⟨by repeat (first | (with_reducible first | exact HB.out | apply below_alloc | apply pw_below_drewN | apply below_drew1 | refine below_set ?_ GE264.out) | exact HB.out)⟩⟩
 case round =>
  clear H'
  try clear c1
  try clear p2
  try clear p6
  try clear hcz8_0
  try clear hcz8_1
  try clear hfz8_0
  try clear hfz8_1
  obtain ⟨x10_1, x265000_1, u265000, rfl, HA, HK1, HO_9, HO_265000, BK264, HB⟩ := hrel
  cases gk with
  | zero => exact absurd HA.out (by simp [w26_ProbeReports.l0])
  | succ k1 =>
   have H := HA.out
   clear HA
   simp only [w26_ProbeReports.l0] at H
   by_cases c10 : x10_1 < (t265.length : Int)
   ·rw [if_pos c10] at H
    have c10b0 : decide (x10_1 < (t265.length : Int)) = true := decide_eq_true c10
    clear c10
    by_cases c11 : 0 ≤ x10_1
    ·rw [if_pos c11] at H
     have c11b0 : decide (0 ≤ x10_1) = true := decide_eq_true c11
     clear c11
     by_cases c12 : x265000_1.length < 2932031007402
     ·rw [if_pos c12] at H
      have LMc12 := Aside0.mk c12
      clear c12
      obtain ⟨y269, hy269⟩ : ∃ y_ : List (S54), y_ = (x265000_1 ++ [(⟨(⟨(rd_T28 t265 x10_1).f0, (rd_T28 t265 x10_1).f1, (rd_T28 t265 x10_1).f2, (rd_T28 t265 x10_1).f3, (rd_T28 t265 x10_1).f4⟩ : S28), false⟩ : S54)]) := ⟨_, rfl⟩
      replace H : (w26_ProbeReports.l0 k1 a2 t263 t265 (wrap64 (x10_1 + 1)) y269 (wrap64 ((Int.tmod (wrap64 ((Int.tmod a1 6) + 6)) 6) - 1))) = some r := by first | (rw [hy269]; with_reducible exact H) | (have H2_ := (Option.bind_some _ _).symm.trans H; rw [hy269]; with_reducible exact H2_) | (have H2_ := (Option.bind_some _ _).symm.trans H; with_reducible exact H2_) | with_reducible exact H | (rw [hy269]; exact H) | exact H
      have Ny269 := Aside0.mk hy269
      clear hy269
      have H' := Aside0.mk H
      clear H
      obtain ⟨Ao13, co13, eo13⟩ := Kd.R_slice HO_9.out
      subst eo13
      try go_wp2
      have n0_ := Aside0.mk (Kd.R_drew HO_9.out)
      have n1_ := Aside0.mk (Kd.R_drew HO_265000.out)
      have n2_ := Aside0.mk (blk_drew BK264.out)
      have n3_ := Aside0.mk (below_drew1 HB.out)
      clear HO_9
      clear HO_265000
      clear BK264
      clear HB
      have HO_9 := n0_
      have HO_265000 := n1_
      have BK264 := n2_
      have HB := n3_
      clear n0_ n1_ n2_ n3_
      have p268 : 0 ≤ (x10_1 : Int) := of_decide_eq_true (by first | (with_reducible assumption) | assumption)
      have q268 : x10_1 < (t265.length : Int) := of_decide_eq_true (by first | (with_reducible assumption) | assumption)
      obtain ⟨ad268, e268, hx268_0, hx268_1, hx268_2, hx268_3, hx268_4⟩ := at_T28 (Kd.R_reads' HO_9.out).2.2 x10_1 p268 q268
      cases e268
      replace p268 := eq_true p268
      replace q268 := eq_true q268
      refine start_ (n := 11) (S := fun w' => w'.cell? ⟨gb264, 0, none⟩ = some (u265000) ∧ w'.cell? ⟨gb264, 1, none⟩ = some (.int .i64 (wrap64 ((Int.tmod (wrap64 ((Int.tmod a1 6) + 6)) 6) - 1))) ∧ w'.cell? (ad268.add ((x10_1).toNat * 5)) = some (.int .i64 ((rd_T28 t265 x10_1).f0)) ∧ w'.cell? ⟨(ad268.add ((x10_1).toNat * 5)).block, (ad268.add ((x10_1).toNat * 5)).off + 1, none⟩ = some (.int .i64 ((rd_T28 t265 x10_1).f1)) ∧ w'.cell? ⟨(ad268.add ((x10_1).toNat * 5)).block, (ad268.add ((x10_1).toNat * 5)).off + 2, none⟩ = some (.int .i64 ((rd_T28 t265 x10_1).f2)) ∧ w'.cell? ⟨(ad268.add ((x10_1).toNat * 5)).block, (ad268.add ((x10_1).toNat * 5)).off + 3, none⟩ = some (.int .i64 ((rd_T28 t265 x10_1).f3)) ∧ w'.cell? ⟨(ad268.add ((x10_1).toNat * 5)).block, (ad268.add ((x10_1).toNat * 5)).off + 4, none⟩ = some (.int .i64 ((rd_T28 t265 x10_1).f4))) (ds := [8, 10]) #[false, false, false, false, false, false, false, false, false, false, false] (by kernel_rfl) rfl rfl ⟨(blk_cell BK264.out 0).trans rfl, (blk_cell BK264.out 1).trans rfl, hx268_0, hx268_1, hx268_2, hx268_3, hx268_4⟩ (fun hHeld => ?_); refine with_tabW w26_ProbeReports.tab7 w26_ProbeReports.bits7 (fun HT_ HW_ => ?_)
      generalize wr.drew = w14 at HO_9 HO_265000 BK264 HB hx268_0 hx268_1 hx268_2 hx268_3 hx268_4 hHeld ⊢
      refine pure_ (i := 0) (N := some 27) (v := ?_) (a' := ?_) #[true, false, false, false, false, false, false, false, false, false, false] rfl rfl (any_of HT_.out (by kernel_rfl)) (fun _ _ _ h => h) (Or.inl ⟨by rfl, ?_⟩) ?_ ?_
      rotate_left; (intro w'; go_simp; with_reducible rfl); rotate_left; (simp only [Act.put, List.setIfInBounds_toArray, List.set_cons_zero, List.set_cons_succ, i64_w, i32_w]; rfl)
      refine pure_ (i := 2) (N := some 29) (v := ?_) (a' := ?_) #[true, false, true, false, false, false, false, false, false, false, false] rfl rfl (any_of HT_.out (by kernel_rfl)) (fun _ _ _ h => h) (Or.inl ⟨by rfl, ?_⟩) ?_ ?_
      rotate_left; (intro w'; go_simp; with_reducible rfl); rotate_left; (simp only [Act.put, List.setIfInBounds_toArray, List.set_cons_zero, List.set_cons_succ, i64_w, i32_w]; rfl)
      refine pure_ (i := 3) (N := some 30) (v := ?_) (a' := ?_) #[true, false, true, true, false, false, false, false, false, false, false] rfl rfl (any_of HT_.out (by kernel_rfl)) (fun _ _ _ h => h) (Or.inl ⟨by rfl, ?_⟩) ?_ ?_
      rotate_left; (intro w'; go_simp; with_reducible rfl); rotate_left; (simp only [Act.put, List.setIfInBounds_toArray, List.set_cons_zero, List.set_cons_succ, i64_w, i32_w]; rfl)
      refine pure_ (i := 4) (N := some 31) (v := ?_) (a' := ?_) #[true, false, true, true, true, false, false, false, false, false, false] rfl rfl (any_of HT_.out (by kernel_rfl)) (fun _ _ _ h => h) (Or.inl ⟨by rfl, ?_⟩) ?_ ?_
      rotate_left; (intro w'; go_simp; with_reducible rfl); rotate_left; (simp only [Act.put, List.setIfInBounds_toArray, List.set_cons_zero, List.set_cons_succ, i64_w, i32_w]; rfl)
      refine take_ (i := 1) (N := some 28) (v := ?_) (a' := ?_) #[true, true, true, true, true, false, false, false, false, false, false] rfl rfl (take_ofW HT_.out HW_.out (by kernel_rfl)) (fun _ _ _ h => h) (Or.inl ⟨by rfl, ?_⟩) hHeld ?_ ?_
      rotate_left; (rintro w' ⟨s0, s1, s2, s3, s4, s5, s6⟩; go_simp; with_reducible rfl); rotate_left; (simp only [Act.put, List.setIfInBounds_toArray, List.set_cons_zero, List.set_cons_succ, i64_w, i32_w]; rfl)
      refine take_ (i := 5) (N := some 32) (v := ?_) (a' := ?_) #[true, true, true, true, true, true, false, false, false, false, false] rfl rfl (take_ofW HT_.out HW_.out (by kernel_rfl)) (fun _ _ _ h => h) (Or.inl ⟨by rfl, ?_⟩) hHeld ?_ ?_
      rotate_left; (rintro w' ⟨s0, s1, s2, s3, s4, s5, s6⟩; go_simp; with_reducible rfl); rotate_left; (simp only [Act.put, List.setIfInBounds_toArray, List.set_cons_zero, List.set_cons_succ, i64_w, i32_w]; rfl)
      refine pure_ (i := 6) (N := some 33) (v := ?_) (a' := ?_) #[true, true, true, true, true, true, true, false, false, false, false] rfl rfl (any_of HT_.out (by kernel_rfl)) (fun _ _ _ h => h) (Or.inl ⟨by rfl, ?_⟩) ?_ ?_
      rotate_left; (intro w'; go_simp; with_reducible rfl); rotate_left; (simp only [Act.put, List.setIfInBounds_toArray, List.set_cons_zero, List.set_cons_succ, i64_w, i32_w]; rfl)
      refine one_ (i := 7) (N := some 34) #[true, true, true, true, true, true, true, true, false, false, false] rfl rfl (one_of HT_.out (by kernel_rfl)) (by decide) (fun K hK => ?_)
      refine value_ (w1 := ?_) (v := ?_) (by rfl) rfl ?_ ?_
      rotate_left 2
      ·go_simp
       constructor
       ·rfl
       ·rfl
      refine hK.out _ _ ⟨(blk_cell (blk_alloc BK264.out _) 0).trans rfl, (blk_cell (blk_alloc BK264.out _) 1).trans rfl, (World.cell?_alloc_lt _ _ _ (World.block_lt_of_cell? _ _ (hHeld.2.2.1))).trans (hHeld.2.2.1), (World.cell?_alloc_lt _ _ _ (World.block_lt_of_cell? _ _ (hHeld.2.2.2.1))).trans (hHeld.2.2.2.1), (World.cell?_alloc_lt _ _ _ (World.block_lt_of_cell? _ _ (hHeld.2.2.2.2.1))).trans (hHeld.2.2.2.2.1), (World.cell?_alloc_lt _ _ _ (World.block_lt_of_cell? _ _ (hHeld.2.2.2.2.2.1))).trans (hHeld.2.2.2.2.2.1), (World.cell?_alloc_lt _ _ _ (World.block_lt_of_cell? _ _ (hHeld.2.2.2.2.2.2))).trans (hHeld.2.2.2.2.2.2)⟩ (fun hHeld => ?_)
      clear hK K
      refine norm_ (a' := ?_) ?_ ?_
      rotate_left; (show Act.put _ (some 34) _ = _; simp only [Act.put, List.setIfInBounds_toArray, List.set_cons_zero, List.set_cons_succ, i64_w, i32_w]; rfl)
      refine last_ (i := 8) (N := some 35) #[true, true, true, true, true, true, true, true, true, false, false] rfl rfl (one_of HT_.out (by kernel_rfl)) (by decide) (fun K hK => ?_)
      refine Kd.R_append_step k54 (w0 := w) w.heap.size (by rfl) (.tmp 28) (.tmp 34) 50 54 (.agg #[(.int .i64 0), (.int .i64 0), (.int .i64 0), (.int .i64 0), (.int .i64 0), (.bool false)]) 48 rfl Try.underlying50 info54 rfl (by decide) (by omega) u265000 x265000_1 (⟨(⟨(rd_T28 t265 x10_1).f0, (rd_T28 t265 x10_1).f1, (rd_T28 t265 x10_1).f2, (rd_T28 t265 x10_1).f3, (rd_T28 t265 x10_1).f4⟩ : S28), false⟩ : S54) [.int .i64 ((rd_T28 t265 x10_1).f0), .int .i64 ((rd_T28 t265 x10_1).f1), .int .i64 ((rd_T28 t265 x10_1).f2), .int .i64 ((rd_T28 t265 x10_1).f3), .int .i64 ((rd_T28 t265 x10_1).f4), .bool false] (fun _ => True) (fun _ => False) rfl rfl ?aP (fun _ hk => hk.elim) ?aF ?aO ?aB ?aS ?aL ?_
      (case aP => exact k54_mkM _ _ _ (⟨(⟨(rd_T28 t265 x10_1).f0, (rd_T28 t265 x10_1).f1, (rd_T28 t265 x10_1).f2, (rd_T28 t265 x10_1).f3, (rd_T28 t265 x10_1).f4⟩ : S28), false⟩ : S54))
      (case aB => exact (by repeat (first | (with_reducible first | exact HB.out | apply below_alloc | apply pw_below_drewN | apply below_drew1 | refine below_set ?_ GE264.out) | exact HB.out)))
      (case aF => exact (fun _ _ => trivial))
      (case aO => exact (by (with_reducible repeat (first | apply Kd.R_alloc | apply Kd.R_drewN | apply Kd.R_drew)); exact HO_265000.out))
      (case aS => exact (below_size (by repeat (first | (with_reducible first | exact HB.out | apply below_alloc | apply pw_below_drewN | apply below_drew1 | refine below_set ?_ GE264.out) | exact HB.out))))
      (case aL => have := LMc12.out; omega)
      intro v270 w15 ho hb hg hat
      rw [← Ny269.out] at ho
      have n0_ := Aside0.mk (Kd.R_over' (by (with_reducible repeat (first | apply Kd.R_alloc | apply Kd.R_drewN | apply Kd.R_drew)); exact HO_9.out) (Kd.R_typed (by (with_reducible repeat (first | apply Kd.R_alloc | apply Kd.R_drewN | apply Kd.R_drew)); exact HO_265000.out)) (by decide) hg)
      have n1_ := Aside0.mk (blk_grown (g := gb264) (o := .cells #[u265000, .int .i64 (wrap64 ((Int.tmod (wrap64 ((Int.tmod a1 6) + 6)) 6) - 1))] 52 (0, 0)) (by (with_reducible repeat (first | refine blk_drewN ?_ _ | refine blk_drew ?_ | refine blk_alloc ?_ _)); exact BK264.out) hg (Kd.R_ne HO_265000.out BK264.out (by decide)))
      have n2_ := Aside0.mk (hb)
      have n3_ := Aside0.mk (ho)
      clear HO_9
      clear BK264
      clear HB
      clear HO_265000
      have HO_9 := n0_
      have BK264 := n1_
      have HB := n2_
      have HO271 := n3_
      clear n0_ n1_ n2_ n3_
      clear ho hb hg hat
      obtain ⟨Ao16, co16, eo16⟩ := Kd.R_slice HO271.out
      (first | subst eo16 | (injection eo16 with f1_ f2_ f3_; have f4_ := f1_.symm; have f5_ := f3_.symm; clear f1_ f2_ f3_; subst f4_; subst f5_))
      refine hK.out _ _ ?_
      clear hK K
      refine norm_ (a' := ?_) ?_ ?_
      rotate_left; (show Act.put _ (some 35) _ = _; simp only [Act.put, List.setIfInBounds_toArray, List.set_cons_zero, List.set_cons_succ, i64_w, i32_w]; rfl)
      refine pure_ (i := 9) (N := some 36) (v := ?_) (a' := ?_) #[true, true, true, true, true, true, true, true, true, true, false] rfl rfl (any_of HT_.out (by kernel_rfl)) (fun _ _ _ h => h) (Or.inl ⟨by rfl, ?_⟩) ?_ ?_
      rotate_left; (intro w'; go_simp; with_reducible rfl); rotate_left; (simp only [Act.put, List.setIfInBounds_toArray, List.set_cons_zero, List.set_cons_succ, i64_w, i32_w]; rfl)
      refine last_ (i := 10) (N := none) #[true, true, true, true, true, true, true, true, true, true, true] rfl rfl (one_of HT_.out (by kernel_rfl)) (by decide) (fun K hK => ?_)
      have hs17 : w15.cell? ⟨gb264, 0, none⟩ = some (u265000) := (blk_cell BK264.out 0).trans rfl
      have hfs17 := blk_frozen BK264.out 0
      refine skip_ (w1 := ?_) (by rfl) rfl ?_ ?_
      rotate_left
      ·go_simp
       rfl
      refine hK.out _ _ ?_
      clear hK K
      refine done_ (done_of HT_.out (by kernel_rfl)) ?_
      try go_wp2
      go_roundg k1
      case measure => have := HK1.out; omega
      case rel => exact ⟨(wrap64 (x10_1 + 1)), (y269), (.slice Ao16 y269.length co16), (by first | rfl | (simp; done) | (simp [*]; done)), H', ⟨by have := HK1.out; omega⟩, ⟨by (with_reducible repeat (first | apply Kd.R_alloc | apply Kd.R_drewN | apply Kd.R_drew)); exact Kd.R_mono (Kd.R_far (p := ⟨gb264, 0, none⟩) (Kd.R_types HO_9.out BK264.out (by decide)) (fun _ hk => hk.2) (.slice Ao16 y269.length co16)) (fun _ hk => trivial)⟩, ⟨by (with_reducible repeat (first | apply Kd.R_alloc | apply Kd.R_drewN | apply Kd.R_drew)); exact Kd.R_mono (Kd.R_far (p := ⟨gb264, 0, none⟩) (Kd.R_types HO271.out BK264.out (by decide)) (fun _ hk => hk.2) (.slice Ao16 y269.length co16)) (fun _ hk => trivial)⟩, ⟨by (with_reducible repeat (first | refine blk_drewN ?_ _ | refine blk_drew ?_ | refine blk_alloc ?_ _)); refine blk_put (cs := #[u265000, .int .i64 (wrap64 ((Int.tmod (wrap64 ((Int.tmod a1 6) + 6)) 6) - 1))]) ?_ 0 _ rfl; (with_reducible repeat (first | refine blk_drewN ?_ _ | refine blk_drew ?_ | refine blk_alloc ?_ _)); exact BK264.out⟩, ⟨by repeat (first | (with_reducible first | exact HB.out | apply below_alloc | apply pw_below_drewN | apply below_drew1 | refine below_set ?_ GE264.out) | exact HB.out)⟩⟩
     ·rw [if_neg c12] at H
      exact absurd H (by simp)
    ·rw [if_neg c11] at H
     exact absurd H (by simp)
   ·rw [if_neg c10] at H
    have c10b0 : decide (x10_1 < (t265.length : Int)) = false := decide_eq_false c10
    clear c10
    have HC18 := Aside0.mk H
    clear H
    obtain ⟨Ao19, co19, eo19⟩ := Kd.R_slice HO_9.out
    subst eo19
    go_upto_region 8 with (fail)
    go_cut [42] (fun v42 wc => ∃ (kq : Nat) (x42_17 : Bool), v42 = .bool x42_17 ∧ Aside0 (w26_ProbeReports.j1 kq t263 x42_17 x265000_1 (wrap64 ((Int.tmod (wrap64 ((Int.tmod a1 6) + 6)) 6) - 1)) = some r) ∧ Aside0 (kq ≤ k1) ∧ Aside0 (Kd.R k54 54 wc w.heap.size (fun _ => True) u265000 x265000_1) ∧ Aside0 (wc.heap[gb264]? = some (.cells #[u265000, .int .i64 (wrap64 ((Int.tmod (wrap64 ((Int.tmod a1 6) + 6)) 6) - 1))] 52 (0, 0))) ∧ Aside0 (Below w.heap.size w wc))
    case first =>
     have H := HC18.out
     clear HC18
     by_cases c20 : a2 = true
     ·subst c20
      have H1 : (w26_ProbeReports.j1 k1 t263 (decide ((t265.length : Int) > 0)) x265000_1 (wrap64 ((Int.tmod (wrap64 ((Int.tmod a1 6) + 6)) 6) - 1))) = some r := by rw [if_pos rfl] at H; exact H
      clear H
      have H := H1
      clear H1
      have H' := Aside0.mk H
      clear H
      go_wp2
      go_meet
      case rel => exact ⟨_, (decide ((t265.length : Int) > 0)), (by first | rfl | (simp; done) | (simp [*]; done)), H', ⟨by have := HK1.out; first | omega | exact Nat.le_refl _⟩, ⟨by (with_reducible repeat (first | apply Kd.R_alloc | apply Kd.R_drewN | apply Kd.R_drew)); exact HO_265000.out⟩, ⟨by (with_reducible repeat (first | refine blk_drewN ?_ _ | refine blk_drew ?_ | refine blk_alloc ?_ _)); exact BK264.out⟩, ⟨by repeat (first | (with_reducible first | exact HB.out | apply below_alloc | apply pw_below_drewN | apply below_drew1 | refine below_set ?_ GE264.out) | exact HB.out)⟩⟩
     ·replace c20 := Bool.eq_false_iff.mpr c20
      subst c20
      have H1 : (w26_ProbeReports.j1 k1 t263 false x265000_1 (wrap64 ((Int.tmod (wrap64 ((Int.tmod a1 6) + 6)) 6) - 1))) = some r := by rw [if_neg (show ¬ (false = true) by decide)] at H; exact H
      clear H
      have H := H1
      clear H1
      have H' := Aside0.mk H
      clear H
      go_wp2
      go_meet
      case rel => exact ⟨_, (false), (by first | rfl | (simp; done) | (simp [*]; done)), H', ⟨by have := HK1.out; first | omega | exact Nat.le_refl _⟩, ⟨by (with_reducible repeat (first | apply Kd.R_alloc | apply Kd.R_drewN | apply Kd.R_drew)); exact HO_265000.out⟩, ⟨by (with_reducible repeat (first | refine blk_drewN ?_ _ | refine blk_drew ?_ | refine blk_alloc ?_ _)); exact BK264.out⟩, ⟨by repeat (first | (with_reducible first | exact HB.out | apply below_alloc | apply pw_below_drewN | apply below_drew1 | refine below_set ?_ GE264.out) | exact HB.out)⟩⟩
    case rest =>
     clear HC18
     try clear c1
     try clear c2
     try clear p2
     try clear q2
     try clear hx2
     try clear p6
     try clear c10
     try clear c10b0
     try clear c11
     try clear c11b0
     try clear c12
     try clear c18
     try clear c19
     try clear c20
     try clear hcz8_0
     try clear hcz8_1
     try clear hfz8_0
     try clear hfz8_1
     try clear hx268_0
     try clear hx268_1
     try clear hx268_2
     try clear hx268_3
     try clear hx268_4
     try clear p2
     try clear p268
     try clear p6
     try clear q268
     obtain ⟨kq, x42_17, rfl, HA, HJ17, HO_265000, BK264, HB⟩ := hcut
     cases kq with
     | zero => exact absurd HA.out (by simp [w26_ProbeReports.j1])
     | succ kj17 =>
      have H := HA.out
      clear HA
      simp only [w26_ProbeReports.j1] at H
      have HC21 := Aside0.mk H
      clear H
      go_upto_if 42 with (fail)
      go_cut [] (fun wc => ∃ (kq : Nat) (x265000_20 : List (S54)) (u265000 : Value), Aside0 (w26_ProbeReports.j2 kq t263 x265000_20 (wrap64 ((Int.tmod (wrap64 ((Int.tmod a1 6) + 6)) 6) - 1)) = some r) ∧ Aside0 (kq ≤ kj17) ∧ Aside0 (Kd.R k54 54 wc w.heap.size (fun _ => True) u265000 x265000_20) ∧ Aside0 (wc.heap[gb264]? = some (.cells #[u265000, .int .i64 (wrap64 ((Int.tmod (wrap64 ((Int.tmod a1 6) + 6)) 6) - 1))] 52 (0, 0))) ∧ Aside0 (Below w.heap.size w wc))
      case first =>
       have H := HC21.out
       clear HC21
       by_cases c22 : x42_17 = true
       ·subst c22
        have H1 : (if 0 < (x265000_1.length : Int) then (if x265000_1.length < 2932031007402 then (w26_ProbeReports.j2 kj17 t263 (x265000_1 ++ [(⟨(⟨(rd_T54 x265000_1 0).f0.f0, (rd_T54 x265000_1 0).f0.f1, (rd_T54 x265000_1 0).f0.f2, (rd_T54 x265000_1 0).f0.f3, (rd_T54 x265000_1 0).f0.f4⟩ : S28), (rd_T54 x265000_1 0).f1⟩ : S54)]) (wrap64 ((Int.tmod (wrap64 ((Int.tmod a1 6) + 6)) 6) - 1))) else (none)) else (none)) = some r := by rw [if_pos rfl] at H; exact H
        clear H
        have H := H1
        clear H1
        by_cases c23 : 0 < (x265000_1.length : Int)
        ·rw [if_pos c23] at H
         have c23b0 : decide (0 < (x265000_1.length : Int)) = true := decide_eq_true c23
         have c23b1 : decide (0 < x265000_1.length) = true := decide_eq_true (by omega)
         clear c23
         (first | rw [c23b0] | (simp only [i64_w, i32_w]; rw [c23b0]) | skip)
         by_cases c24 : x265000_1.length < 2932031007402
         ·rw [if_pos c24] at H
          have LMc24 := Aside0.mk c24
          clear c24
          obtain ⟨y273, hy273⟩ : ∃ y_ : List (S54), y_ = (x265000_1 ++ [(⟨(⟨(rd_T54 x265000_1 0).f0.f0, (rd_T54 x265000_1 0).f0.f1, (rd_T54 x265000_1 0).f0.f2, (rd_T54 x265000_1 0).f0.f3, (rd_T54 x265000_1 0).f0.f4⟩ : S28), (rd_T54 x265000_1 0).f1⟩ : S54)]) := ⟨_, rfl⟩
          replace H : (w26_ProbeReports.j2 kj17 t263 y273 (wrap64 ((Int.tmod (wrap64 ((Int.tmod a1 6) + 6)) 6) - 1))) = some r := by first | (rw [hy273]; with_reducible exact H) | (have H2_ := (Option.bind_some _ _).symm.trans H; rw [hy273]; with_reducible exact H2_) | (have H2_ := (Option.bind_some _ _).symm.trans H; with_reducible exact H2_) | with_reducible exact H | (rw [hy273]; exact H) | exact H
          have Ny273 := Aside0.mk hy273
          clear hy273
          have H' := Aside0.mk H
          clear H
          try go_wp2
          have n0_ := Aside0.mk (Kd.R_drew HO_265000.out)
          have n1_ := Aside0.mk (blk_drew BK264.out)
          have n2_ := Aside0.mk (below_drew1 HB.out)
          clear HO_265000
          clear BK264
          clear HB
          have HO_265000 := n0_
          have BK264 := n1_
          have HB := n2_
          clear n0_ n1_ n2_
          obtain ⟨Ao26, co26, eo26⟩ := Kd.R_slice HO_265000.out
          (first | subst eo26 | (injection eo26 with f1_ f2_ f3_; have f4_ := f1_.symm; have f5_ := f3_.symm; clear f1_ f2_ f3_; subst f4_; subst f5_))
          have p272 : 0 ≤ (0 : Int) := (by omega)
          have q272 : 0 < (x265000_1.length : Int) := of_decide_eq_true (by first | (with_reducible assumption) | assumption)
          obtain ⟨ad272, e272, hx272_0, hx272_1, hx272_2, hx272_3, hx272_4, hx272_5⟩ := at_T54 (Kd.R_reads' HO_265000.out).2.2 0 p272 q272
          cases e272
          have qi272 : (0 < x265000_1.length) = True := eq_true (by omega)
          (try rw [show ((0 : Int)).toNat = 0 from rfl] at hx272_0)
          (try rw [show 0 * 6 = 0 from rfl] at hx272_0)
          (try rw [Addr.add_zero'] at hx272_0)
          (try rw [show ((0 : Int)).toNat = 0 from rfl] at hx272_1)
          (try rw [show 0 * 6 = 0 from rfl] at hx272_1)
          (try rw [Addr.add_zero'] at hx272_1)
          (try rw [show ((0 : Int)).toNat = 0 from rfl] at hx272_2)
          (try rw [show 0 * 6 = 0 from rfl] at hx272_2)
          (try rw [Addr.add_zero'] at hx272_2)
          (try rw [show ((0 : Int)).toNat = 0 from rfl] at hx272_3)
          (try rw [show 0 * 6 = 0 from rfl] at hx272_3)
          (try rw [Addr.add_zero'] at hx272_3)
          (try rw [show ((0 : Int)).toNat = 0 from rfl] at hx272_4)
          (try rw [show 0 * 6 = 0 from rfl] at hx272_4)
          (try rw [Addr.add_zero'] at hx272_4)
          (try rw [show ((0 : Int)).toNat = 0 from rfl] at hx272_5)
          (try rw [show 0 * 6 = 0 from rfl] at hx272_5)
          (try rw [Addr.add_zero'] at hx272_5)
          replace p272 := eq_true p272
          replace q272 := eq_true q272
          refine start_ (n := 10) (S := fun w' => w'.cell? ⟨gb264, 0, none⟩ = some (.slice (some ad272) x265000_1.length co26) ∧ w'.cell? ⟨gb264, 1, none⟩ = some (.int .i64 (wrap64 ((Int.tmod (wrap64 ((Int.tmod a1 6) + 6)) 6) - 1))) ∧ w'.cell? ad272 = some (.int .i64 ((rd_T54 x265000_1 0).f0.f0)) ∧ w'.cell? ⟨ad272.block, ad272.off + 1, none⟩ = some (.int .i64 ((rd_T54 x265000_1 0).f0.f1)) ∧ w'.cell? ⟨ad272.block, ad272.off + 2, none⟩ = some (.int .i64 ((rd_T54 x265000_1 0).f0.f2)) ∧ w'.cell? ⟨ad272.block, ad272.off + 3, none⟩ = some (.int .i64 ((rd_T54 x265000_1 0).f0.f3)) ∧ w'.cell? ⟨ad272.block, ad272.off + 4, none⟩ = some (.int .i64 ((rd_T54 x265000_1 0).f0.f4)) ∧ w'.cell? ⟨ad272.block, ad272.off + 5, none⟩ = some (.bool ((rd_T54 x265000_1 0).f1))) (ds := [7, 9]) #[false, false, false, false, false, false, false, false, false, false] (by kernel_rfl) rfl rfl ⟨(blk_cell BK264.out 0).trans rfl, (blk_cell BK264.out 1).trans rfl, hx272_0, hx272_1, hx272_2, hx272_3, hx272_4, hx272_5⟩ (fun hHeld => ?_); refine with_tabW w26_ProbeReports.tab9 w26_ProbeReports.bits9 (fun HT_ HW_ => ?_)
          generalize wc.drew = w25 at HO_265000 BK264 HB hx272_0 hx272_1 hx272_2 hx272_3 hx272_4 hx272_5 hHeld ⊢
          refine pure_ (i := 0) (N := some 43) (v := ?_) (a' := ?_) #[true, false, false, false, false, false, false, false, false, false] rfl rfl (any_of HT_.out (by kernel_rfl)) (fun _ _ _ h => h) (Or.inl ⟨by rfl, ?_⟩) ?_ ?_
          rotate_left; (intro w'; go_simp; with_reducible rfl); rotate_left; (simp only [Act.put, List.setIfInBounds_toArray, List.set_cons_zero, List.set_cons_succ, i64_w, i32_w]; rfl)
          refine pure_ (i := 2) (N := some 45) (v := ?_) (a' := ?_) #[true, false, true, false, false, false, false, false, false, false] rfl rfl (any_of HT_.out (by kernel_rfl)) (fun _ _ _ h => h) (Or.inl ⟨by rfl, ?_⟩) ?_ ?_
          rotate_left; (intro w'; go_simp; with_reducible rfl); rotate_left; (simp only [Act.put, List.setIfInBounds_toArray, List.set_cons_zero, List.set_cons_succ, i64_w, i32_w]; rfl)
          refine take_ (i := 1) (N := some 44) (v := ?_) (a' := ?_) #[true, true, true, false, false, false, false, false, false, false] rfl rfl (take_ofW HT_.out HW_.out (by kernel_rfl)) (fun _ _ _ h => h) (Or.inl ⟨by rfl, ?_⟩) hHeld ?_ ?_
          rotate_left; (rintro w' ⟨s0, s1, s2, s3, s4, s5, s6, s7⟩; go_simp; with_reducible rfl); rotate_left; (simp only [Act.put, List.setIfInBounds_toArray, List.set_cons_zero, List.set_cons_succ, i64_w, i32_w]; rfl)
          refine take_ (i := 3) (N := some 46) (v := ?_) (a' := ?_) #[true, true, true, true, false, false, false, false, false, false] rfl rfl (take_ofW HT_.out HW_.out (by kernel_rfl)) (fun _ _ _ h => h) (Or.inl ⟨by rfl, ?_⟩) hHeld ?_ ?_
          rotate_left; (rintro w' ⟨s0, s1, s2, s3, s4, s5, s6, s7⟩; go_simp; with_reducible rfl); rotate_left; (simp only [Act.put, List.setIfInBounds_toArray, List.set_cons_zero, List.set_cons_succ, i64_w, i32_w]; rfl)
          refine pure_ (i := 4) (N := some 47) (v := ?_) (a' := ?_) #[true, true, true, true, true, false, false, false, false, false] rfl rfl (any_of HT_.out (by kernel_rfl)) (fun _ _ _ h => h) (Or.inl ⟨by rfl, ?_⟩) ?_ ?_
          rotate_left; (intro w'; go_simp; with_reducible rfl); rotate_left; (simp only [Act.put, List.setIfInBounds_toArray, List.set_cons_zero, List.set_cons_succ, i64_w, i32_w]; rfl)
          refine take_ (i := 5) (N := some 48) (v := ?_) (a' := ?_) #[true, true, true, true, true, true, false, false, false, false] rfl rfl (take_ofW HT_.out HW_.out (by kernel_rfl)) (fun _ _ _ h => h) (Or.inl ⟨by rfl, ?_⟩) hHeld ?_ ?_
          rotate_left; (rintro w' ⟨s0, s1, s2, s3, s4, s5, s6, s7⟩; go_simp; with_reducible rfl); rotate_left; (simp only [Act.put, List.setIfInBounds_toArray, List.set_cons_zero, List.set_cons_succ, i64_w, i32_w]; rfl)
          refine one_ (i := 6) (N := some 49) #[true, true, true, true, true, true, true, false, false, false] rfl rfl (one_of HT_.out (by kernel_rfl)) (by decide) (fun K hK => ?_)
          refine value_ (w1 := ?_) (v := ?_) (by rfl) rfl ?_ ?_
          rotate_left 2
          ·go_simp
           constructor
           ·rfl
           ·rfl
          refine hK.out _ _ ⟨(blk_cell (blk_alloc BK264.out _) 0).trans rfl, (blk_cell (blk_alloc BK264.out _) 1).trans rfl, (World.cell?_alloc_lt _ _ _ (World.block_lt_of_cell? _ _ (hHeld.2.2.1))).trans (hHeld.2.2.1), (World.cell?_alloc_lt _ _ _ (World.block_lt_of_cell? _ _ (hHeld.2.2.2.1))).trans (hHeld.2.2.2.1), (World.cell?_alloc_lt _ _ _ (World.block_lt_of_cell? _ _ (hHeld.2.2.2.2.1))).trans (hHeld.2.2.2.2.1), (World.cell?_alloc_lt _ _ _ (World.block_lt_of_cell? _ _ (hHeld.2.2.2.2.2.1))).trans (hHeld.2.2.2.2.2.1), (World.cell?_alloc_lt _ _ _ (World.block_lt_of_cell? _ _ (hHeld.2.2.2.2.2.2.1))).trans (hHeld.2.2.2.2.2.2.1), (World.cell?_alloc_lt _ _ _ (World.block_lt_of_cell? _ _ (hHeld.2.2.2.2.2.2.2))).trans (hHeld.2.2.2.2.2.2.2)⟩ (fun hHeld => ?_)
          clear hK K
          refine norm_ (a' := ?_) ?_ ?_
          rotate_left; (show Act.put _ (some 49) _ = _; simp only [Act.put, List.setIfInBounds_toArray, List.set_cons_zero, List.set_cons_succ, i64_w, i32_w]; rfl)
          refine last_ (i := 7) (N := some 50) #[true, true, true, true, true, true, true, true, false, false] rfl rfl (one_of HT_.out (by kernel_rfl)) (by decide) (fun K hK => ?_)
          refine Kd.R_append_step k54 (w0 := w) w.heap.size (by rfl) (.tmp 44) (.tmp 49) 50 54 (.agg #[(.int .i64 0), (.int .i64 0), (.int .i64 0), (.int .i64 0), (.int .i64 0), (.bool false)]) 48 rfl Try.underlying50 info54 rfl (by decide) (by omega) (.slice (some ad272) x265000_1.length co26) x265000_1 (⟨(⟨(rd_T54 x265000_1 0).f0.f0, (rd_T54 x265000_1 0).f0.f1, (rd_T54 x265000_1 0).f0.f2, (rd_T54 x265000_1 0).f0.f3, (rd_T54 x265000_1 0).f0.f4⟩ : S28), (rd_T54 x265000_1 0).f1⟩ : S54) [.int .i64 ((rd_T54 x265000_1 0).f0.f0), .int .i64 ((rd_T54 x265000_1 0).f0.f1), .int .i64 ((rd_T54 x265000_1 0).f0.f2), .int .i64 ((rd_T54 x265000_1 0).f0.f3), .int .i64 ((rd_T54 x265000_1 0).f0.f4), .bool ((rd_T54 x265000_1 0).f1)] (fun _ => True) (fun _ => False) rfl rfl ?aP (fun _ hk => hk.elim) ?aF ?aO ?aB ?aS ?aL ?_
          (case aP => exact k54_mkM _ _ _ (⟨(⟨(rd_T54 x265000_1 0).f0.f0, (rd_T54 x265000_1 0).f0.f1, (rd_T54 x265000_1 0).f0.f2, (rd_T54 x265000_1 0).f0.f3, (rd_T54 x265000_1 0).f0.f4⟩ : S28), (rd_T54 x265000_1 0).f1⟩ : S54))
          (case aB => exact (by repeat (first | (with_reducible first | exact HB.out | apply below_alloc | apply pw_below_drewN | apply below_drew1 | refine below_set ?_ GE264.out) | exact HB.out)))
          (case aF => exact (fun _ _ => trivial))
          (case aO => exact (by (with_reducible repeat (first | apply Kd.R_alloc | apply Kd.R_drewN | apply Kd.R_drew)); exact HO_265000.out))
          (case aS => exact (below_size (by repeat (first | (with_reducible first | exact HB.out | apply below_alloc | apply pw_below_drewN | apply below_drew1 | refine below_set ?_ GE264.out) | exact HB.out))))
          (case aL => have := LMc24.out; omega)
          intro v274 w27 ho hb hg hat
          rw [← Ny273.out] at ho
          have n0_ := Aside0.mk (blk_grown (g := gb264) (o := .cells #[.slice (some ad272) x265000_1.length co26, .int .i64 (wrap64 ((Int.tmod (wrap64 ((Int.tmod a1 6) + 6)) 6) - 1))] 52 (0, 0)) (by (with_reducible repeat (first | refine blk_drewN ?_ _ | refine blk_drew ?_ | refine blk_alloc ?_ _)); exact BK264.out) hg (Kd.R_ne HO_265000.out BK264.out (by decide)))
          have n1_ := Aside0.mk (hb)
          have n2_ := Aside0.mk (ho)
          clear BK264
          clear HB
          clear HO_265000
          have BK264 := n0_
          have HB := n1_
          have HO275 := n2_
          clear n0_ n1_ n2_
          clear ho hb hg hat
          obtain ⟨Ao28, co28, eo28⟩ := Kd.R_slice HO275.out
          (first | subst eo28 | (injection eo28 with f1_ f2_ f3_; have f4_ := f1_.symm; have f5_ := f3_.symm; clear f1_ f2_ f3_; subst f4_; subst f5_))
          refine hK.out _ _ ?_
          clear hK K
          refine norm_ (a' := ?_) ?_ ?_
          rotate_left; (show Act.put _ (some 50) _ = _; simp only [Act.put, List.setIfInBounds_toArray, List.set_cons_zero, List.set_cons_succ, i64_w, i32_w]; rfl)
          refine pure_ (i := 8) (N := some 51) (v := ?_) (a' := ?_) #[true, true, true, true, true, true, true, true, true, false] rfl rfl (any_of HT_.out (by kernel_rfl)) (fun _ _ _ h => h) (Or.inl ⟨by rfl, ?_⟩) ?_ ?_
          rotate_left; (intro w'; go_simp; with_reducible rfl); rotate_left; (simp only [Act.put, List.setIfInBounds_toArray, List.set_cons_zero, List.set_cons_succ, i64_w, i32_w]; rfl)
          refine last_ (i := 9) (N := none) #[true, true, true, true, true, true, true, true, true, true] rfl rfl (one_of HT_.out (by kernel_rfl)) (by decide) (fun K hK => ?_)
          have hs29 : w27.cell? ⟨gb264, 0, none⟩ = some (.slice (some ad272) x265000_1.length co26) := (blk_cell BK264.out 0).trans rfl
          have hfs29 := blk_frozen BK264.out 0
          refine skip_ (w1 := ?_) (by rfl) rfl ?_ ?_
          rotate_left
          ·go_simp
           rfl
          refine hK.out _ _ ?_
          clear hK K
          refine done_ (done_of HT_.out (by kernel_rfl)) ?_
          try go_wp2
          go_meet
          case rel => exact ⟨_, (y273), (.slice Ao28 y273.length co28), H', ⟨by have := HK1.out; have := HJ17.out; first | omega | exact Nat.le_refl _⟩, ⟨by (with_reducible repeat (first | apply Kd.R_alloc | apply Kd.R_drewN | apply Kd.R_drew)); exact Kd.R_mono (Kd.R_far (p := ⟨gb264, 0, none⟩) (Kd.R_types HO275.out BK264.out (by decide)) (fun _ hk => hk.2) (.slice Ao28 y273.length co28)) (fun _ hk => trivial)⟩, ⟨by (with_reducible repeat (first | refine blk_drewN ?_ _ | refine blk_drew ?_ | refine blk_alloc ?_ _)); refine blk_put (cs := #[.slice (some ad272) x265000_1.length co26, .int .i64 (wrap64 ((Int.tmod (wrap64 ((Int.tmod a1 6) + 6)) 6) - 1))]) ?_ 0 _ rfl; (with_reducible repeat (first | refine blk_drewN ?_ _ | refine blk_drew ?_ | refine blk_alloc ?_ _)); exact BK264.out⟩, ⟨by repeat (first | (with_reducible first | exact HB.out | apply below_alloc | apply pw_below_drewN | apply below_drew1 | refine below_set ?_ GE264.out) | exact HB.out)⟩⟩
         ·rw [if_neg c24] at H
          exact absurd H (by simp)
        ·rw [if_neg c23] at H
         exact absurd H (by simp)
       ·replace c22 := Bool.eq_false_iff.mpr c22
        subst c22
        have H1 : (w26_ProbeReports.j2 kj17 t263 x265000_1 (wrap64 ((Int.tmod (wrap64 ((Int.tmod a1 6) + 6)) 6) - 1))) = some r := by rw [if_neg (show ¬ (false = true) by decide)] at H; exact H
        clear H
        have H := H1
        clear H1
        have H' := Aside0.mk H
        clear H
        go_wp2
        go_meet
        case rel => exact ⟨_, (x265000_1), (u265000), H', ⟨by have := HK1.out; have := HJ17.out; first | omega | exact Nat.le_refl _⟩, ⟨by (with_reducible repeat (first | apply Kd.R_alloc | apply Kd.R_drewN | apply Kd.R_drew)); exact HO_265000.out⟩, ⟨by (with_reducible repeat (first | refine blk_drewN ?_ _ | refine blk_drew ?_ | refine blk_alloc ?_ _)); exact BK264.out⟩, ⟨by repeat (first | (with_reducible first | exact HB.out | apply below_alloc | apply pw_below_drewN | apply below_drew1 | refine below_set ?_ GE264.out) | exact HB.out)⟩⟩
      case rest =>
       clear HC21
       try clear c1
       try clear c2
       try clear p2
       try clear q2
       try clear hx2
       try clear qi2
       try clear p6
       try clear c10
       try clear c10b0
       try clear c11
       try clear c11b0
       try clear c12
       try clear c18
       try clear c19
       try clear c20
       try clear c22
       try clear c23
       try clear c23b0
       try clear c23b1
       try clear c24
       try clear p26
       try clear q26
       try clear hx26
       try clear p27
       try clear q27
       try clear hx27
       try clear qi27
       try clear hcz8_0
       try clear hcz8_1
       try clear hfz8_0
       try clear hfz8_1
       try clear hx268_0
       try clear hx268_1
       try clear hx268_2
       try clear hx268_3
       try clear hx268_4
       try clear hx272_0
       try clear hx272_1
       try clear hx272_2
       try clear hx272_3
       try clear hx272_4
       try clear hx272_5
       try clear p2
       try clear p268
       try clear p272
       try clear p6
       try clear q2
       try clear q268
       try clear q272
       obtain ⟨kq, x265000_20, u265000, HA, HJ20, HO_265000, BK264, HB⟩ := hcut
       cases kq with
       | zero => exact absurd HA.out (by simp [w26_ProbeReports.j2])
       | succ kj20 =>
        have H := HA.out
        clear HA
        simp only [w26_ProbeReports.j2] at H
        replace H := Option.bind_eq_some_iff.mp H
        obtain ⟨t276, A300, H⟩ := H
        replace H : ((r26_Report.f kj20 x265000_20 (wrap64 ((Int.tmod (wrap64 ((Int.tmod a1 6) + 6)) 6) - 1))).bind fun t279 => ((r26_Same.f kj20 t276 t279).bind fun t282 => (if t263 = true then (some t282) else (some false)))) = some r := H
        have A30 := Aside0.mk A300
        clear A300
        replace H := Option.bind_eq_some_iff.mp H
        obtain ⟨t279, A310, H⟩ := H
        replace H : ((r26_Same.f kj20 t276 t279).bind fun t282 => (if t263 = true then (some t282) else (some false))) = some r := H
        have A31 := Aside0.mk A310
        clear A310
        replace H := Option.bind_eq_some_iff.mp H
        obtain ⟨t282, A320, H⟩ := H
        replace H : (if t263 = true then (some t282) else (some false)) = some r := H
        have A32 := Aside0.mk A320
        clear A320
        by_cases c33 : t263 = true
        ·subst c33
         have H1 : (some t282) = some r := by rw [if_pos rfl] at H; exact H
         clear H
         have H := H1
         clear H1
         obtain rfl := Option.some.inj H
         try go_wp2
         have n0_ := Aside0.mk (Kd.R_drew HO_265000.out)
         have n1_ := Aside0.mk (blk_drew BK264.out)
         have n2_ := Aside0.mk (below_drew1 HB.out)
         clear HO_265000
         clear BK264
         clear HB
         have HO_265000 := n0_
         have BK264 := n1_
         have HB := n2_
         clear n0_ n1_ n2_
         obtain ⟨Ao35, co35, eo35⟩ := Kd.R_slice HO_265000.out
         (first | subst eo35 | (injection eo35 with f1_ f2_ f3_; have f4_ := f1_.symm; have f5_ := f3_.symm; clear f1_ f2_ f3_; subst f4_; subst f5_))
         refine start_ (n := 6) (S := fun w' => w'.cell? ⟨gb264, 0, none⟩ = some (.slice Ao35 x265000_20.length co35) ∧ w'.cell? ⟨gb264, 1, none⟩ = some (.int .i64 (wrap64 ((Int.tmod (wrap64 ((Int.tmod a1 6) + 6)) 6) - 1)))) (ds := []) #[false, false, false, false, false, false] (by kernel_rfl) rfl rfl ⟨(blk_cell BK264.out 0).trans rfl, (blk_cell BK264.out 1).trans rfl⟩ (fun hHeld => ?_)
         generalize wc.drew = w34 at HO_265000 BK264 HB hHeld ⊢
         refine take_ (i := 0) (N := some 52) (v := ?_) (a' := ?_) #[true, false, false, false, false, false] rfl rfl (by kernel_rfl) (fun _ _ _ h => h) (Or.inl ⟨by rfl, ?_⟩) hHeld ?_ ?_
         rotate_left; (rintro w' ⟨s0, s1⟩; go_simp; with_reducible rfl); rotate_left; (simp only [Act.put, List.setIfInBounds_toArray, List.set_cons_zero, List.set_cons_succ, i64_w, i32_w]; rfl)
         refine take_ (i := 2) (N := some 54) (v := ?_) (a' := ?_) #[true, false, true, false, false, false] rfl rfl (by kernel_rfl) (fun _ _ _ h => h) (Or.inl ⟨by rfl, ?_⟩) hHeld ?_ ?_
         rotate_left; (rintro w' ⟨s0, s1⟩; go_simp; with_reducible rfl); rotate_left; (simp only [Act.put, List.setIfInBounds_toArray, List.set_cons_zero, List.set_cons_succ, i64_w, i32_w]; rfl)
         refine one_ (i := 1) (N := some 53) #[true, true, true, false, false, false] rfl rfl (by kernel_rfl) (by decide) (fun K hK => ?_)
         refine goes_ Try.func30 (by kernel_rfl) rfl #[.agg #[.slice Ao35 x265000_20.length co35, .int .i64 (wrap64 ((Int.tmod (wrap64 ((Int.tmod a1 6) + 6)) 6) - 1))]] (by rfl) rfl rfl (by (try simp only [List.map_toArray, List.map_cons, List.map_nil]); first | done | rfl | (simp only [List.length_drop, List.length_take]; rfl)) ?_
         with_reducible refine (probe_Report.calls kj20 _ _ x265000_20 (wrap64 ((Int.tmod (wrap64 ((Int.tmod a1 6) + 6)) 6) - 1)) t276 _ ?side1 ?side2 A30.out).mono ?_
         (case side1 => repeat (first | exact (Kd.R_reads' HO_265000.out).2.2 | (with_reducible refine Kd.C_alloc ?_ _) | (with_reducible refine Kd.C_drewN ?_ _) | (with_reducible refine Kd.C_drew ?_)))
         (case side2 => exact (Kd.R_reads' HO_265000.out).2.1)
         rintro e w36 ⟨v277, rfl, ho0, hb⟩
         refine ⟨_, rfl, ?_⟩
         have n0_ := Aside0.mk (Kd.R_below (by (with_reducible repeat (first | apply Kd.R_alloc | apply Kd.R_drewN | apply Kd.R_drew)); exact HO_265000.out) hb)
         have n1_ := Aside0.mk (Kd.R_lower ho0 (below_size (by repeat (first | (with_reducible first | exact HB.out | apply below_alloc | apply pw_below_drewN | apply below_drew1 | refine below_set ?_ GE264.out) | exact HB.out))))
         have n2_ := Aside0.mk (blk_below (g := gb264) (o := .cells #[.slice Ao35 x265000_20.length co35, .int .i64 (wrap64 ((Int.tmod (wrap64 ((Int.tmod a1 6) + 6)) 6) - 1))] 52 (0, 0)) (by (with_reducible repeat (first | refine blk_drewN ?_ _ | refine blk_drew ?_ | refine blk_alloc ?_ _)); exact BK264.out) hb)
         have n3_ := Aside0.mk (below_step (by repeat (first | (with_reducible first | exact HB.out | apply below_alloc | apply pw_below_drewN | apply below_drew1 | refine below_set ?_ GE264.out) | exact HB.out)) hb)
         clear HO_265000
         clear BK264
         clear HB
         have HO_265000 := n0_
         have HO278 := n1_
         have BK264 := n2_
         have HB := n3_
         clear n0_ n1_ n2_ n3_
         (try clear hb)
         (try clear hb2)
         (try clear hk)
         (try clear hi)
         (try clear ho0)
         refine hK.out _ _ ⟨(blk_cell BK264.out 0).trans rfl, (blk_cell BK264.out 1).trans rfl⟩ (fun hHeld => ?_)
         clear hK K
         refine norm_ (a' := ?_) ?_ ?_
         rotate_left; (show Act.put _ (some 53) _ = _; simp only [Act.put, List.setIfInBounds_toArray, List.set_cons_zero, List.set_cons_succ, i64_w, i32_w]; rfl)
         refine one_ (i := 3) (N := some 55) #[true, true, true, true, false, false] rfl rfl (by kernel_rfl) (by decide) (fun K hK => ?_)
         refine goes_ Try.func31 (by kernel_rfl) rfl #[.agg #[.slice Ao35 x265000_20.length co35, .int .i64 (wrap64 ((Int.tmod (wrap64 ((Int.tmod a1 6) + 6)) 6) - 1))]] (by rfl) rfl rfl (by (try simp only [List.map_toArray, List.map_cons, List.map_nil]); first | done | rfl | (simp only [List.length_drop, List.length_take]; rfl)) ?_
         with_reducible refine (r26_Report.calls kj20 _ _ x265000_20 (wrap64 ((Int.tmod (wrap64 ((Int.tmod a1 6) + 6)) 6) - 1)) t279 _ ?side1 ?side2 A31.out).mono ?_
         (case side1 => repeat (first | exact (Kd.R_reads' HO_265000.out).2.2 | (with_reducible refine Kd.C_alloc ?_ _) | (with_reducible refine Kd.C_drewN ?_ _) | (with_reducible refine Kd.C_drew ?_)))
         (case side2 => exact (Kd.R_reads' HO_265000.out).2.1)
         rintro e w37 ⟨v280, rfl, ho0, hb⟩
         refine ⟨_, rfl, ?_⟩
         have n0_ := Aside0.mk (Kd.R_below (by (with_reducible repeat (first | apply Kd.R_alloc | apply Kd.R_drewN | apply Kd.R_drew)); exact HO_265000.out) hb)
         have n1_ := Aside0.mk (Kd.R_elder' (by (with_reducible repeat (first | apply Kd.R_alloc | apply Kd.R_drewN | apply Kd.R_drew)); exact HO278.out) (Kd.R_base ho0) hb)
         have n2_ := Aside0.mk (Kd.R_lower (Kd.R_new' ho0 (Kd.R_lt (by (with_reducible repeat (first | apply Kd.R_alloc | apply Kd.R_drewN | apply Kd.R_drew)); exact HO278.out))) (below_size (by repeat (first | (with_reducible first | exact HB.out | apply below_alloc | apply pw_below_drewN | apply below_drew1 | refine below_set ?_ GE264.out) | exact HB.out))))
         have n3_ := Aside0.mk (blk_below (g := gb264) (o := .cells #[.slice Ao35 x265000_20.length co35, .int .i64 (wrap64 ((Int.tmod (wrap64 ((Int.tmod a1 6) + 6)) 6) - 1))] 52 (0, 0)) (by (with_reducible repeat (first | refine blk_drewN ?_ _ | refine blk_drew ?_ | refine blk_alloc ?_ _)); exact BK264.out) hb)
         have n4_ := Aside0.mk (below_step (by repeat (first | (with_reducible first | exact HB.out | apply below_alloc | apply pw_below_drewN | apply below_drew1 | refine below_set ?_ GE264.out) | exact HB.out)) hb)
         clear HO_265000
         clear HO278
         clear BK264
         clear HB
         have HO_265000 := n0_
         have HO278 := n1_
         have HO281 := n2_
         have BK264 := n3_
         have HB := n4_
         clear n0_ n1_ n2_ n3_ n4_
         (try clear hb)
         (try clear hb2)
         (try clear hk)
         (try clear hi)
         (try clear ho0)
         obtain ⟨Ao38, co38, eo38⟩ := Kd.R_slice HO278.out
         (first | subst eo38 | (injection eo38 with f1_ f2_ f3_; have f4_ := f1_.symm; have f5_ := f3_.symm; clear f1_ f2_ f3_; subst f4_; subst f5_))
         obtain ⟨Ao39, co39, eo39⟩ := Kd.R_slice HO281.out
         (first | subst eo39 | (injection eo39 with f1_ f2_ f3_; have f4_ := f1_.symm; have f5_ := f3_.symm; clear f1_ f2_ f3_; subst f4_; subst f5_))
         refine hK.out _ _ ⟨(blk_cell BK264.out 0).trans rfl, (blk_cell BK264.out 1).trans rfl⟩ (fun hHeld => ?_)
         clear hK K
         refine norm_ (a' := ?_) ?_ ?_
         rotate_left; (show Act.put _ (some 55) _ = _; simp only [Act.put, List.setIfInBounds_toArray, List.set_cons_zero, List.set_cons_succ, i64_w, i32_w]; rfl)
         refine one_ (i := 4) (N := some 56) #[true, true, true, true, true, false] rfl rfl (by kernel_rfl) (by decide) (fun K hK => ?_)
         refine goes_ Try.func29 (by kernel_rfl) rfl #[.slice Ao38 t276.length co38, .slice Ao39 t279.length co39] (by rfl) rfl rfl (by (try simp only [List.map_toArray, List.map_cons, List.map_nil]); first | done | rfl | (simp only [List.length_drop, List.length_take]; rfl)) ?_
         with_reducible refine (r26_Same.calls kj20 _ _ t276 _ _ t279 t282 _ ?side1 ?side2 ?side3 ?side4 A32.out).mono ?_
         (case side1 => repeat (first | exact (Kd.R_reads' HO278.out).2.2 | (with_reducible refine Kd.C_alloc ?_ _) | (with_reducible refine Kd.C_drewN ?_ _) | (with_reducible refine Kd.C_drew ?_)))
         (case side2 => exact (Kd.R_reads' HO278.out).2.1)
         (case side3 => repeat (first | exact (Kd.R_reads' HO281.out).2.2 | (with_reducible refine Kd.C_alloc ?_ _) | (with_reducible refine Kd.C_drewN ?_ _) | (with_reducible refine Kd.C_drew ?_)))
         (case side4 => exact (Kd.R_reads' HO281.out).2.1)
         rintro e w' ⟨rfl, ⟨nd, rfl⟩⟩
         refine ⟨_, rfl, ?_⟩
         refine hK.out _ _ ⟨(blk_cell BK264.out 0).trans rfl, (blk_cell BK264.out 1).trans rfl⟩ (fun hHeld => ?_)
         clear hK K
         refine norm_ (a' := ?_) ?_ ?_
         rotate_left; (show Act.put _ (some 56) _ = _; simp only [Act.put, List.setIfInBounds_toArray, List.set_cons_zero, List.set_cons_succ, i64_w, i32_w]; rfl)
         refine pure_ (i := 5) (N := some 11) (v := ?_) (a' := ?_) #[true, true, true, true, true, true] rfl rfl (by kernel_rfl) (fun _ _ _ h => h) (Or.inl ⟨by rfl, ?_⟩) ?_ ?_
         rotate_left; (intro w'; go_simp; with_reducible rfl); rotate_left; (simp only [Act.put, List.setIfInBounds_toArray, List.set_cons_zero, List.set_cons_succ, i64_w, i32_w]; rfl)
         refine done_ (by kernel_rfl) ?_
         try go_wp2
         go_ret
         exact ⟨by first | rfl | (simp [errW_none, errW_some] <;> rfl) | (simp [*, errW_none, errW_some] <;> rfl), by repeat (first | (with_reducible first | exact HB.out | apply below_alloc | apply pw_below_drewN | apply below_drew1 | refine below_set ?_ GE264.out) | exact HB.out)⟩
        ·replace c33 := Bool.eq_false_iff.mpr c33
         subst c33
         have H1 : (some false) = some r := by rw [if_neg (show ¬ (false = true) by decide)] at H; exact H
         clear H
         have H := H1
         clear H1
         exact absurd ((Option.some.inj H).trans HRT.out) (by decide)
end Go.Proofs.Ytmgmpifbhjoijaa.PProbeReports
