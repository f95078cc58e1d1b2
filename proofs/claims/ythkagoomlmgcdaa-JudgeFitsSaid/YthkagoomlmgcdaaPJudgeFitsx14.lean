-- Made by px.py (a program of this session, over the kit's printer) out of the translation. Not trusted: Lean checks it.
import Derived.Test.YthkagoomlmgcdaaPJudgeFitsx0
import Derived.Test.YthkagoomlmgcdaaPJudgeFitsx2
import Derived.Test.YthkagoomlmgcdaaPJudgeFitsx11
import Derived.Test.YthkagoomlmgcdaaPJudgeFitsx12
import Derived.Test.YthkagoomlmgcdaaPJudgeFitsx13
namespace Go.Proofs.Ythkagoomlmgcdaa.PJudgeFits
open Go.RowKit Go.Proofs.YthkagoomlmgcdaaW.PrintWords Go.Proofs.YthkagoomlmgcdaaW.PrintLast Go.Proofs.YthkagoomlmgcdaaW.PrintMore
attribute [local go_sem] max2_int min2_int max_two min_two max_three min_three max_four min_four   -- for this text's walks alone
set_option linter.unusedVariables false
set_option linter.unusedSimpArgs false

/-! ### w15_JudgeFits: function 7 -/
mutual
def w15_JudgeFits.l0 : Nat → List (S52) → Bool → Int → List (S60) → Int → Option (Bool)
 | 0, _, _, _, _, _ => none
 | k + 1, x0, x3, x5, x222000, x222001 => if x5 < (x0.length : Int) then (w15_JudgeFits.j1 k x0 x3 x5 (decide (x5 < 24)) x222000 x222001) else (w15_JudgeFits.j1 k x0 x3 x5 false x222000 x222001)
def w15_JudgeFits.j1 : Nat → List (S52) → Bool → Int → Bool → List (S60) → Int → Option (Bool)
 | 0, _, _, _, _, _, _ => none
 | k + 1, x0, x3, x5, x19, x222000, x222001 => if x19 = true then (if 0 ≤ x5 then (if x5 < (x0.length : Int) then ((w15_Num_op.f ((rd_T52 x0 x5).f0) ((rd_T52 x0 x5).f1) ((rd_T52 x0 x5).f2) ((rd_T52 x0 x5).f3) ((rd_T52 x0 x5).f4) ((rd_T52 x0 x5).f5) ((rd_T52 x0 x5).f6)).bind fun bt223 => ((judge_May.f k x222000 x222001 bt223.1 bt223.2.1 bt223.2.2.1 bt223.2.2.2.1 bt223.2.2.2.2.1 bt223.2.2.2.2.2.1 bt223.2.2.2.2.2.2.1 bt223.2.2.2.2.2.2.2.1 bt223.2.2.2.2.2.2.2.2.1 bt223.2.2.2.2.2.2.2.2.2 ([] : List (S31))).bind fun bt233 => (if bt233.2.2 = 0 then (w15_JudgeFits.j2 k x0 x3 x5 bt233.1 bt233.2.1) else (if (bt233.1.length : Int) = 0 then (if bt233.2.1 = 0 then (w15_JudgeFits.j2 k x0 x3 x5 x222000 x222001) else (some false)) else (some false))))) else (none)) else (none)) else (some x3)
def w15_JudgeFits.j2 : Nat → List (S52) → Bool → Int → List (S60) → Int → Option (Bool)
 | 0, _, _, _, _, _ => none
 | k + 1, x0, x3, x5, x222000, x222001 => w15_JudgeFits.l1 k x0 x3 x5 0 x222000 x222001
def w15_JudgeFits.l1 : Nat → List (S52) → Bool → Int → Int → List (S60) → Int → Option (Bool)
 | 0, _, _, _, _, _, _ => none
 | k + 1, x0, x3, x5, x8, x222000, x222001 => if x8 < 4 then ((r14_In.f k x222000 x222001 x8).bind fun t240 => ((r12_Test.f k t240).bind fun t243 => (if t243 = 0 then (w15_JudgeFits.l1 k x0 x3 x5 (wrap64 (x8 + 1)) x222000 x222001) else (some false)))) else ((r14_Check.f x222000 x222001).bind fun t239 => (if t239 = true then (w15_JudgeFits.l0 k x0 x3 (wrap64 (x5 + 1)) x222000 x222001) else (some false)))
end
def w15_JudgeFits.f (k : Nat) (l0 : List (S52)) : Option (Bool) := (w15_awake.f k).bind fun t220 => (w15_JudgeFits.l0 k l0 t220 0 ([] : List (S60)) 0)
theorem w15_JudgeFits.mono_l : ∀ k, (∀ y0 y1 y2 y3 y4, LeO (w15_JudgeFits.l0 k y0 y1 y2 y3 y4) (w15_JudgeFits.l0 (k + 1) y0 y1 y2 y3 y4)) ∧ (∀ y0 y1 y2 y3 y4 y5, LeO (w15_JudgeFits.j1 k y0 y1 y2 y3 y4 y5) (w15_JudgeFits.j1 (k + 1) y0 y1 y2 y3 y4 y5)) ∧ (∀ y0 y1 y2 y3 y4, LeO (w15_JudgeFits.j2 k y0 y1 y2 y3 y4) (w15_JudgeFits.j2 (k + 1) y0 y1 y2 y3 y4)) ∧ (∀ y0 y1 y2 y3 y4 y5, LeO (w15_JudgeFits.l1 k y0 y1 y2 y3 y4 y5) (w15_JudgeFits.l1 (k + 1) y0 y1 y2 y3 y4 y5))
 | 0 => ⟨fun _ _ _ _ _ r h => by simp [w15_JudgeFits.l0] at h, fun _ _ _ _ _ _ r h => by simp [w15_JudgeFits.j1] at h, fun _ _ _ _ _ r h => by simp [w15_JudgeFits.j2] at h, fun _ _ _ _ _ _ r h => by simp [w15_JudgeFits.l1] at h⟩
 | k + 1 => by
  obtain ⟨ih0, ih1, ih2, ih3⟩ := w15_JudgeFits.mono_l k
  refine ⟨?_, ?_, ?_, ?_⟩
  ·intro y0 y1 y2 y3 y4
   unfold w15_JudgeFits.l0
   repeat' first
   | (with_reducible exact ih0 _ _ _ _ _)
   | (with_reducible exact ih1 _ _ _ _ _ _)
   | (with_reducible exact ih2 _ _ _ _ _)
   | (with_reducible exact ih3 _ _ _ _ _ _)
   | (with_reducible exact w15_awake.mono _)
   | (with_reducible exact r12_Test.mono _ _)
   | (with_reducible exact r14_In.mono _ _ _ _)
   | (with_reducible exact judge_May.mono _ _ _ _ _ _ _ _ _ _ _ _ _ _)
   | (with_reducible exact LeO.refl _)
   | (with_reducible exact LeO.none _)
   | (with_reducible refine LeO.ite ?_ ?_)
   | (with_reducible refine LeO.bind ?_ (fun _ => ?_))
   | exact ih0 _ _ _ _ _
   | exact ih1 _ _ _ _ _ _
   | exact ih2 _ _ _ _ _
   | exact ih3 _ _ _ _ _ _
   | exact w15_awake.mono _
   | exact r12_Test.mono _ _
   | exact r14_In.mono _ _ _ _
   | exact judge_May.mono _ _ _ _ _ _ _ _ _ _ _ _ _ _
   | exact LeO.none _
   | refine LeO.ite ?_ ?_
   | refine LeO.bind ?_ (fun _ => ?_)
  ·intro y0 y1 y2 y3 y4 y5
   unfold w15_JudgeFits.j1
   repeat' first
   | (with_reducible exact ih0 _ _ _ _ _)
   | (with_reducible exact ih1 _ _ _ _ _ _)
   | (with_reducible exact ih2 _ _ _ _ _)
   | (with_reducible exact ih3 _ _ _ _ _ _)
   | (with_reducible exact w15_awake.mono _)
   | (with_reducible exact r12_Test.mono _ _)
   | (with_reducible exact r14_In.mono _ _ _ _)
   | (with_reducible exact judge_May.mono _ _ _ _ _ _ _ _ _ _ _ _ _ _)
   | (with_reducible exact LeO.refl _)
   | (with_reducible exact LeO.none _)
   | (with_reducible refine LeO.ite ?_ ?_)
   | (with_reducible refine LeO.bind ?_ (fun _ => ?_))
   | exact ih0 _ _ _ _ _
   | exact ih1 _ _ _ _ _ _
   | exact ih2 _ _ _ _ _
   | exact ih3 _ _ _ _ _ _
   | exact w15_awake.mono _
   | exact r12_Test.mono _ _
   | exact r14_In.mono _ _ _ _
   | exact judge_May.mono _ _ _ _ _ _ _ _ _ _ _ _ _ _
   | exact LeO.none _
   | refine LeO.ite ?_ ?_
   | refine LeO.bind ?_ (fun _ => ?_)
  ·intro y0 y1 y2 y3 y4
   unfold w15_JudgeFits.j2
   repeat' first
   | (with_reducible exact ih0 _ _ _ _ _)
   | (with_reducible exact ih1 _ _ _ _ _ _)
   | (with_reducible exact ih2 _ _ _ _ _)
   | (with_reducible exact ih3 _ _ _ _ _ _)
   | (with_reducible exact w15_awake.mono _)
   | (with_reducible exact r12_Test.mono _ _)
   | (with_reducible exact r14_In.mono _ _ _ _)
   | (with_reducible exact judge_May.mono _ _ _ _ _ _ _ _ _ _ _ _ _ _)
   | (with_reducible exact LeO.refl _)
   | (with_reducible exact LeO.none _)
   | (with_reducible refine LeO.ite ?_ ?_)
   | (with_reducible refine LeO.bind ?_ (fun _ => ?_))
   | exact ih0 _ _ _ _ _
   | exact ih1 _ _ _ _ _ _
   | exact ih2 _ _ _ _ _
   | exact ih3 _ _ _ _ _ _
   | exact w15_awake.mono _
   | exact r12_Test.mono _ _
   | exact r14_In.mono _ _ _ _
   | exact judge_May.mono _ _ _ _ _ _ _ _ _ _ _ _ _ _
   | exact LeO.none _
   | refine LeO.ite ?_ ?_
   | refine LeO.bind ?_ (fun _ => ?_)
  ·intro y0 y1 y2 y3 y4 y5
   unfold w15_JudgeFits.l1
   repeat' first
   | (with_reducible exact ih0 _ _ _ _ _)
   | (with_reducible exact ih1 _ _ _ _ _ _)
   | (with_reducible exact ih2 _ _ _ _ _)
   | (with_reducible exact ih3 _ _ _ _ _ _)
   | (with_reducible exact w15_awake.mono _)
   | (with_reducible exact r12_Test.mono _ _)
   | (with_reducible exact r14_In.mono _ _ _ _)
   | (with_reducible exact judge_May.mono _ _ _ _ _ _ _ _ _ _ _ _ _ _)
   | (with_reducible exact LeO.refl _)
   | (with_reducible exact LeO.none _)
   | (with_reducible refine LeO.ite ?_ ?_)
   | (with_reducible refine LeO.bind ?_ (fun _ => ?_))
   | exact ih0 _ _ _ _ _
   | exact ih1 _ _ _ _ _ _
   | exact ih2 _ _ _ _ _
   | exact ih3 _ _ _ _ _ _
   | exact w15_awake.mono _
   | exact r12_Test.mono _ _
   | exact r14_In.mono _ _ _ _
   | exact judge_May.mono _ _ _ _ _ _ _ _ _ _ _ _ _ _
   | exact LeO.none _
   | refine LeO.ite ?_ ?_
   | refine LeO.bind ?_ (fun _ => ?_)
theorem w15_JudgeFits.mono : ∀ a0 k, LeO (w15_JudgeFits.f k a0) (w15_JudgeFits.f (k + 1) a0) := by
 intro a0 k
 obtain ⟨ih0, ih1, ih2, ih3⟩ := w15_JudgeFits.mono_l k
 unfold w15_JudgeFits.f
 repeat' first
   | (with_reducible exact ih0 _ _ _ _ _)
   | (with_reducible exact ih1 _ _ _ _ _ _)
   | (with_reducible exact ih2 _ _ _ _ _)
   | (with_reducible exact ih3 _ _ _ _ _ _)
   | (with_reducible exact w15_awake.mono _)
   | (with_reducible exact r12_Test.mono _ _)
   | (with_reducible exact r14_In.mono _ _ _ _)
   | (with_reducible exact judge_May.mono _ _ _ _ _ _ _ _ _ _ _ _ _ _)
   | (with_reducible exact LeO.refl _)
   | (with_reducible exact LeO.none _)
   | (with_reducible refine LeO.ite ?_ ?_)
   | (with_reducible refine LeO.bind ?_ (fun _ => ?_))
   | exact ih0 _ _ _ _ _
   | exact ih1 _ _ _ _ _ _
   | exact ih2 _ _ _ _ _
   | exact ih3 _ _ _ _ _ _
   | exact w15_awake.mono _
   | exact r12_Test.mono _ _
   | exact r14_In.mono _ _ _ _
   | exact judge_May.mono _ _ _ _ _ _ _ _ _ _ _ _ _ _
   | exact LeO.none _
   | refine LeO.ite ?_ ?_
   | refine LeO.bind ?_ (fun _ => ?_)
def w15_JudgeFits.T6 : Bool × List (List Nat × List Nat) := (true, [([], []), ([], []), ([], []), ([1, 2], [1, 2]), ([3], [3]), ([4], [4]), ([0, 5, 5], [0, 5]), ([6], [6]), ([7], [7]), ([7], [7]), ([], []), ([10, 8, 6, 0, 1, 2, 3, 4, 5, 6, 7, 8, 10], [8, 10]), ([9, 11, 0, 1, 2, 3, 4, 5, 6, 7, 8, 9, 10, 11], [9])])
def w15_JudgeFits.B6 : List Nat := [0, 0, 0, 6, 14, 30, 63, 127, 255, 255, 0, 1535, 4095]
theorem w15_JudgeFits.tab6 : rtab .any (opsOf Try.f7 6) = w15_JudgeFits.T6 := by kernel_rfl
theorem w15_JudgeFits.bits6 : waitsOk w15_JudgeFits.T6.2 w15_JudgeFits.B6 = true := by kernel_rfl
set_option maxHeartbeats 8000000 in
set_option maxRecDepth 100000 in
theorem w15_JudgeFits.calls (k : Nat) (A0 : Option Addr) (c0 : Nat) (l0 : List (S52)) (r : Bool) (w : World) (hr0 : Kd.C k52 w A0 l0.length l0) (hc0 : l0.length ≤ c0) (h : w15_JudgeFits.f k l0 = some r) (hrt : r = true) :
  Calls Try.prog 7 #[.slice A0 l0.length c0] w fun e w' => e = .returned (.bool r) ∧ Below w.heap.size w w' := by
 have HRT := Lib.hid hrt
 clear hrt
 have hu46 := Try.underlying46
 have hu52 := Try.underlying52
 have HR0 := Aside0.mk hr0
 have HC0 := Aside0.mk hc0
 clear hr0 hc0
 have HB := Aside0.mk (Below.refl w.heap.size w)
 have H : ((w15_awake.f k).bind fun t220 => (w15_JudgeFits.l0 k l0 t220 0 ([] : List (S60)) 0)) = some r := h
 clear h
 replace H := Option.bind_eq_some_iff.mp H
 obtain ⟨t220, A20, H⟩ := H
 replace H : (w15_JudgeFits.l0 k l0 t220 0 ([] : List (S60)) 0) = some r := H
 have A2 := Aside0.mk A20
 clear A20
 have H' := Aside0.mk H
 clear H
 go_enter Try.func7, Try.ntmps7
 go_wp2_with (first | ((with_reducible refine gate_callee (f := 20) rfl ?_); refine goesL_ (some 10) rfl rfl Try.func20 (by kernel_rfl) rfl #[] rfl (by (try simp only [List.map_toArray, List.map_cons, List.map_nil]); first | done | rfl | (simp only [List.length_drop, List.length_take]; rfl)) ?_; (with_reducible refine (w15_awake.calls k  t220 _ A2.out).mono ?_); rintro e w3 ⟨rfl, hb⟩; refine ⟨_, rfl, ?_⟩; have n0_ := Aside0.mk (below_step bl_ hb); clear HB; have HB := n0_; clear n0_; (try clear hb); (try clear hb2); (try clear hk); (try clear hi)) | ((with_reducible refine gate_dst (N := 4) rfl ?_); refine box_event ?hg (N := 4) ?hd (cs := #[.slice none 0 0, .int .i64 0]) (t := 46) ?hr ?_; (case hd => rfl); (case hg => rfl); (case hr => first | (go_simp; done) | (go_simp; rfl)); intro gb221 hg w4 hbox hb; have n0_ := Aside0.mk (below_step bl_ hb); have n1_ := Aside0.mk (hbox); have n2_ := Aside0.mk ((by rw [hg]; exact (below_size bl_) : w.heap.size ≤ gb221)); have n3_ := Aside0.mk ((by rw [hg]; exact (below_size bl_) : w.heap.size ≤ gb221)); clear HB; have HB := n0_; have BK221 := n1_; have GW221 := n2_; have GE221 := n3_; clear n0_ n1_ n2_ n3_; clear hb hbox hg; have hcz5_0 : w4.cell? ⟨gb221, 0, none⟩ = some (.slice none 0 0) := (blk_cell BK221.out 0).trans rfl; have hcz5_1 : w4.cell? ⟨gb221, 1, none⟩ = some (.int .i64 0) := (blk_cell BK221.out 1).trans rfl; have hfz5_0 := blk_frozen BK221.out 0; have hfz5_1 := blk_frozen BK221.out 1))
 go_loopg [5] k (fun kq v5 w' => ∃ (x5_1 : Int) (x222000_1 : List (S60)) (x222001_1 : Int) (u222000 : Value), v5 = .int .i64 x5_1 ∧ Aside0 (w15_JudgeFits.l0 kq l0 t220 x5_1 x222000_1 x222001_1 = some r) ∧ Aside0 (kq ≤ k) ∧ Aside0 (Kd.R k60 60 w' w.heap.size (fun _ => True) u222000 x222000_1) ∧ Aside0 (w'.heap[gb221]? = some (.cells #[u222000, .int .i64 x222001_1] 46 (0, 0))) ∧ Aside0 (Below w.heap.size w w'))
 case atStart => exact ⟨(0), (([] : List (S60))), (0), (.slice none 0 0), (by first | rfl | (simp; done) | (simp [*]; done)), H', ⟨Nat.le_refl _⟩, ⟨by first | exact Kd.R_nil _ _ _ _ _ | exact Kd.N_nil _ _ _ _ _ | exact Kd.V_nil _ _ _ _ _ | exact Kd.Q_nil _ _ _ _ _ | exact Kd.S_nil _ _ _ _ _⟩, ⟨by (with_reducible repeat (first | refine blk_drewN ?_ _ | refine blk_drew ?_ | refine blk_alloc ?_ _)); refine blk_put (cs := #[.slice none 0 0, .int .i64 0]) ?_ 1 _ rfl; (with_reducible repeat (first | refine blk_drewN ?_ _ | refine blk_drew ?_ | refine blk_alloc ?_ _)); refine blk_put (cs := #[.slice none 0 0, .int .i64 0]) ?_ 0 _ rfl; (with_reducible repeat (first | refine blk_drewN ?_ _ | refine blk_drew ?_ | refine blk_alloc ?_ _)); exact BK221.out⟩, ⟨bl_⟩⟩
 case round =>
  clear H'
  try clear c2
  try clear p2
  try clear hcz5_0
  try clear hcz5_1
  try clear hfz5_0
  try clear hfz5_1
  obtain ⟨x5_1, x222000_1, x222001_1, u222000, rfl, HA, HK1, HO_222000, BK221, HB⟩ := hrel
  cases gk with
  | zero => exact absurd HA.out (by simp [w15_JudgeFits.l0])
  | succ k1 =>
   have H := HA.out
   clear HA
   simp only [w15_JudgeFits.l0] at H
   have HC6 := Aside0.mk H
   clear H
   go_upto_region 4 with (fail)
   go_cut [19] (fun v19 wc => ∃ (kq : Nat) (x19_5 : Bool), v19 = .bool x19_5 ∧ Aside0 (w15_JudgeFits.j1 kq l0 t220 x5_1 x19_5 x222000_1 x222001_1 = some r) ∧ Aside0 (kq ≤ k1) ∧ Aside0 (Kd.R k60 60 wc w.heap.size (fun _ => True) u222000 x222000_1) ∧ Aside0 (wc.heap[gb221]? = some (.cells #[u222000, .int .i64 x222001_1] 46 (0, 0))) ∧ Aside0 (Below w.heap.size w wc))
   case first =>
    have H := HC6.out
    clear HC6
    by_cases c7 : x5_1 < (l0.length : Int)
    ·rw [if_pos c7] at H
     have c7b0 : decide (x5_1 < (l0.length : Int)) = true := decide_eq_true c7
     clear c7
     (first | rw [c7b0] | (simp only [i64_w, i32_w]; rw [c7b0]) | skip)
     have H' := Aside0.mk H
     clear H
     go_wp2
     go_meet
     case rel => exact ⟨_, (decide (x5_1 < 24)), (by first | rfl | (simp; done) | (simp [*]; done)), H', ⟨by have := HK1.out; first | omega | exact Nat.le_refl _⟩, ⟨by (with_reducible repeat (first | apply Kd.R_alloc | apply Kd.R_drewN | apply Kd.R_drew)); exact HO_222000.out⟩, ⟨bk_⟩, ⟨bl_⟩⟩
    ·rw [if_neg c7] at H
     have c7b0 : decide (x5_1 < (l0.length : Int)) = false := decide_eq_false c7
     clear c7
     (first | rw [c7b0] | (simp only [i64_w, i32_w]; rw [c7b0]) | skip)
     have H' := Aside0.mk H
     clear H
     go_wp2
     go_meet
     case rel => exact ⟨_, (false), (by first | rfl | (simp; done) | (simp [*]; done)), H', ⟨by have := HK1.out; first | omega | exact Nat.le_refl _⟩, ⟨by (with_reducible repeat (first | apply Kd.R_alloc | apply Kd.R_drewN | apply Kd.R_drew)); exact HO_222000.out⟩, ⟨bk_⟩, ⟨bl_⟩⟩
   case rest =>
    clear HC6
    try clear c2
    try clear p2
    try clear c7
    try clear c7b0
    try clear hcz5_0
    try clear hcz5_1
    try clear hfz5_0
    try clear hfz5_1
    try clear p2
    obtain ⟨kq, x19_5, rfl, HA, HJ5, HO_222000, BK221, HB⟩ := hcut
    cases kq with
    | zero => exact absurd HA.out (by simp [w15_JudgeFits.j1])
    | succ kj5 =>
     have H := HA.out
     clear HA
     simp only [w15_JudgeFits.j1] at H
     by_cases c8 : x19_5 = true
     ·subst c8
      have H1 : (if 0 ≤ x5_1 then (if x5_1 < (l0.length : Int) then ((w15_Num_op.f ((rd_T52 l0 x5_1).f0) ((rd_T52 l0 x5_1).f1) ((rd_T52 l0 x5_1).f2) ((rd_T52 l0 x5_1).f3) ((rd_T52 l0 x5_1).f4) ((rd_T52 l0 x5_1).f5) ((rd_T52 l0 x5_1).f6)).bind fun bt223 => ((judge_May.f kj5 x222000_1 x222001_1 bt223.1 bt223.2.1 bt223.2.2.1 bt223.2.2.2.1 bt223.2.2.2.2.1 bt223.2.2.2.2.2.1 bt223.2.2.2.2.2.2.1 bt223.2.2.2.2.2.2.2.1 bt223.2.2.2.2.2.2.2.2.1 bt223.2.2.2.2.2.2.2.2.2 ([] : List (S31))).bind fun bt233 => (if bt233.2.2 = 0 then (w15_JudgeFits.j2 kj5 l0 t220 x5_1 bt233.1 bt233.2.1) else (if (bt233.1.length : Int) = 0 then (if bt233.2.1 = 0 then (w15_JudgeFits.j2 kj5 l0 t220 x5_1 x222000_1 x222001_1) else (some false)) else (some false))))) else (none)) else (none)) = some r := by rw [if_pos rfl] at H; exact H
      clear H
      have H := H1
      clear H1
      by_cases c9 : 0 ≤ x5_1
      ·rw [if_pos c9] at H
       have c9b0 : decide (0 ≤ x5_1) = true := decide_eq_true c9
       clear c9
       by_cases c10 : x5_1 < (l0.length : Int)
       ·rw [if_pos c10] at H
        have c10b0 : decide (x5_1 < (l0.length : Int)) = true := decide_eq_true c10
        clear c10
        replace H := Option.bind_eq_some_iff.mp H
        obtain ⟨⟨t223, t224, t225, t226, t227, t228, t229, t230, t231, t232⟩, A110, H⟩ := H
        replace H : ((judge_May.f kj5 x222000_1 x222001_1 t223 t224 t225 t226 t227 t228 t229 t230 t231 t232 ([] : List (S31))).bind fun bt233 => (if bt233.2.2 = 0 then (w15_JudgeFits.j2 kj5 l0 t220 x5_1 bt233.1 bt233.2.1) else (if (bt233.1.length : Int) = 0 then (if bt233.2.1 = 0 then (w15_JudgeFits.j2 kj5 l0 t220 x5_1 x222000_1 x222001_1) else (some false)) else (some false)))) = some r := H
        have A11 := Aside0.mk A110
        clear A110
        replace H := Option.bind_eq_some_iff.mp H
        obtain ⟨⟨t233, t236, t237⟩, A120, H⟩ := H
        replace H : (if t237 = 0 then (w15_JudgeFits.j2 kj5 l0 t220 x5_1 t233 t236) else (if (t233.length : Int) = 0 then (if t236 = 0 then (w15_JudgeFits.j2 kj5 l0 t220 x5_1 x222000_1 x222001_1) else (some false)) else (some false))) = some r := H
        have A12 := Aside0.mk A120
        clear A120
        have HC13 := Aside0.mk H
        clear H
        obtain ⟨Ao14, co14, eo14⟩ := Kd.R_slice HO_222000.out
        subst eo14
        try go_wp2
        have n0_ := Aside0.mk (Kd.R_drew HO_222000.out)
        have n1_ := Aside0.mk (blk_drew BK221.out)
        have n2_ := Aside0.mk (below_drew1 HB.out)
        clear HO_222000
        clear BK221
        clear HB
        have HO_222000 := n0_
        have BK221 := n1_
        have HB := n2_
        clear n0_ n1_ n2_
        have p222 : 0 ≤ (x5_1 : Int) := of_decide_eq_true (by first | (with_reducible assumption) | assumption)
        have q222 : x5_1 < (l0.length : Int) := of_decide_eq_true (by first | (with_reducible assumption) | assumption)
        obtain ⟨ad222, e222, hx222_0, hx222_1, hx222_2, hx222_3, hx222_4, hx222_5, hx222_6⟩ := at_T52 HR0.out x5_1 p222 q222
        have hw222_6 := hx222_6
        have hw222_5 := hx222_5
        have hw222_4 := hx222_4
        have hw222_3 := hx222_3
        have hw222_2 := hx222_2
        have hw222_1 := hx222_1
        have hw222_0 := hx222_0
        cases e222
        replace hx222_0 := (HB.out.cell (World.block_lt_of_cell? w _ hx222_0)).trans hx222_0
        replace hx222_1 := (HB.out.cell (World.block_lt_of_cell? w _ hx222_1)).trans hx222_1
        replace hx222_2 := (HB.out.cell (World.block_lt_of_cell? w _ hx222_2)).trans hx222_2
        replace hx222_3 := (HB.out.cell (World.block_lt_of_cell? w _ hx222_3)).trans hx222_3
        replace hx222_4 := (HB.out.cell (World.block_lt_of_cell? w _ hx222_4)).trans hx222_4
        replace hx222_5 := (HB.out.cell (World.block_lt_of_cell? w _ hx222_5)).trans hx222_5
        replace hx222_6 := (HB.out.cell (World.block_lt_of_cell? w _ hx222_6)).trans hx222_6
        replace p222 := eq_true p222
        replace q222 := eq_true q222
        refine start_ (n := 13) (S := fun w' => w'.cell? ⟨gb221, 0, none⟩ = some (.slice Ao14 x222000_1.length co14) ∧ w'.cell? ⟨gb221, 1, none⟩ = some (.int .i64 x222001_1) ∧ w'.cell? (ad222.add ((x5_1).toNat * 7)) = some (.int .i64 ((rd_T52 l0 x5_1).f0)) ∧ w'.cell? ⟨(ad222.add ((x5_1).toNat * 7)).block, (ad222.add ((x5_1).toNat * 7)).off + 1, none⟩ = some (.int .i64 ((rd_T52 l0 x5_1).f1)) ∧ w'.cell? ⟨(ad222.add ((x5_1).toNat * 7)).block, (ad222.add ((x5_1).toNat * 7)).off + 2, none⟩ = some (.int .i64 ((rd_T52 l0 x5_1).f2)) ∧ w'.cell? ⟨(ad222.add ((x5_1).toNat * 7)).block, (ad222.add ((x5_1).toNat * 7)).off + 3, none⟩ = some (.int .i64 ((rd_T52 l0 x5_1).f3)) ∧ w'.cell? ⟨(ad222.add ((x5_1).toNat * 7)).block, (ad222.add ((x5_1).toNat * 7)).off + 4, none⟩ = some (.int .i64 ((rd_T52 l0 x5_1).f4)) ∧ w'.cell? ⟨(ad222.add ((x5_1).toNat * 7)).block, (ad222.add ((x5_1).toNat * 7)).off + 5, none⟩ = some (.int .i64 ((rd_T52 l0 x5_1).f5)) ∧ w'.cell? ⟨(ad222.add ((x5_1).toNat * 7)).block, (ad222.add ((x5_1).toNat * 7)).off + 6, none⟩ = some (.bool ((rd_T52 l0 x5_1).f6))) (ds := []) #[false, false, false, false, false, false, false, false, false, false, false, false, false] (by kernel_rfl) rfl rfl ⟨(blk_cell BK221.out 0).trans rfl, (blk_cell BK221.out 1).trans rfl, ((HB.out.cell (World.block_lt_of_cell? w _ hw222_0)).trans hw222_0), ((HB.out.cell (World.block_lt_of_cell? w _ hw222_1)).trans hw222_1), ((HB.out.cell (World.block_lt_of_cell? w _ hw222_2)).trans hw222_2), ((HB.out.cell (World.block_lt_of_cell? w _ hw222_3)).trans hw222_3), ((HB.out.cell (World.block_lt_of_cell? w _ hw222_4)).trans hw222_4), ((HB.out.cell (World.block_lt_of_cell? w _ hw222_5)).trans hw222_5), ((HB.out.cell (World.block_lt_of_cell? w _ hw222_6)).trans hw222_6)⟩ (fun hHeld => ?_); refine with_tabW w15_JudgeFits.tab6 w15_JudgeFits.bits6 (fun HT_ HW_ => ?_)
        generalize wc.drew = w15 at HO_222000 BK221 HB hx222_0 hx222_1 hx222_2 hx222_3 hx222_4 hx222_5 hx222_6 hHeld ⊢
        refine pure_ (i := 1) (N := some 24) (v := ?_) (a' := ?_) #[false, true, false, false, false, false, false, false, false, false, false, false, false] rfl rfl (any_of HT_.out (by kernel_rfl)) (fun _ _ _ h => h) (Or.inl ⟨by rfl, ?_⟩) ?_ ?_
        rotate_left; (intro w'; go_simp; with_reducible rfl); rotate_left; (simp only [Act.put, List.setIfInBounds_toArray, List.set_cons_zero, List.set_cons_succ, i64_w, i32_w]; rfl)
        refine pure_ (i := 2) (N := some 25) (v := ?_) (a' := ?_) #[false, true, true, false, false, false, false, false, false, false, false, false, false] rfl rfl (any_of HT_.out (by kernel_rfl)) (fun _ _ _ h => h) (Or.inl ⟨by rfl, ?_⟩) ?_ ?_
        rotate_left; (intro w'; go_simp; with_reducible rfl); rotate_left; (simp only [Act.put, List.setIfInBounds_toArray, List.set_cons_zero, List.set_cons_succ, i64_w, i32_w]; rfl)
        refine pure_ (i := 3) (N := some 26) (v := ?_) (a' := ?_) #[false, true, true, true, false, false, false, false, false, false, false, false, false] rfl rfl (any_of HT_.out (by kernel_rfl)) (fun _ _ _ h => h) (Or.inl ⟨by rfl, ?_⟩) ?_ ?_
        rotate_left; (intro w'; go_simp; with_reducible rfl); rotate_left; (simp only [Act.put, List.setIfInBounds_toArray, List.set_cons_zero, List.set_cons_succ, i64_w, i32_w]; rfl)
        refine take_ (i := 0) (N := some 23) (v := ?_) (a' := ?_) #[true, true, true, true, false, false, false, false, false, false, false, false, false] rfl rfl (take_ofW HT_.out HW_.out (by kernel_rfl)) (fun _ _ _ h => h) (Or.inl ⟨by rfl, ?_⟩) hHeld ?_ ?_
        rotate_left; (rintro w' ⟨s0, s1, s2, s3, s4, s5, s6, s7, s8⟩; go_simp; with_reducible rfl); rotate_left; (simp only [Act.put, List.setIfInBounds_toArray, List.set_cons_zero, List.set_cons_succ, i64_w, i32_w]; rfl)
        refine take_ (i := 4) (N := some 27) (v := ?_) (a' := ?_) #[true, true, true, true, true, false, false, false, false, false, false, false, false] rfl rfl (take_ofW HT_.out HW_.out (by kernel_rfl)) (fun _ _ _ h => h) (Or.inl ⟨by rfl, ?_⟩) hHeld ?_ ?_
        rotate_left; (rintro w' ⟨s0, s1, s2, s3, s4, s5, s6, s7, s8⟩; go_simp; with_reducible rfl); rotate_left; (simp only [Act.put, List.setIfInBounds_toArray, List.set_cons_zero, List.set_cons_succ, i64_w, i32_w]; rfl)
        refine join_ (σ := Value × Nat) 2 #[true, true, true, true, true, true, true, true, true, true, true, false, false] (fun s_ => [(28, .agg #[.int .i64 t223, .int .i64 t224, .int .i64 t225, .int .i64 t226, .int .i64 t227, .int .i64 t228, .bool t229, .int .i64 t230, .int .i64 t231, .int .i64 t232]), (29, .tuple #[.agg #[s_.1, .int .i64 t236], .int .i64 t237]), (6, .pointer (some ⟨s_.2, 0, none⟩)), (22, .tuple #[.agg #[s_.1, .int .i64 t236], .int .i64 t237]), (30, .agg #[s_.1, .int .i64 t236]), (31, .int .i64 t237)]) (fun s_ w' => (w'.cell? ⟨gb221, 0, none⟩ = some (.slice Ao14 x222000_1.length co14) ∧ w'.cell? ⟨gb221, 1, none⟩ = some (.int .i64 x222001_1) ∧ w'.cell? (ad222.add ((x5_1).toNat * 7)) = some (.int .i64 ((rd_T52 l0 x5_1).f0)) ∧ w'.cell? ⟨(ad222.add ((x5_1).toNat * 7)).block, (ad222.add ((x5_1).toNat * 7)).off + 1, none⟩ = some (.int .i64 ((rd_T52 l0 x5_1).f1)) ∧ w'.cell? ⟨(ad222.add ((x5_1).toNat * 7)).block, (ad222.add ((x5_1).toNat * 7)).off + 2, none⟩ = some (.int .i64 ((rd_T52 l0 x5_1).f2)) ∧ w'.cell? ⟨(ad222.add ((x5_1).toNat * 7)).block, (ad222.add ((x5_1).toNat * 7)).off + 3, none⟩ = some (.int .i64 ((rd_T52 l0 x5_1).f3)) ∧ w'.cell? ⟨(ad222.add ((x5_1).toNat * 7)).block, (ad222.add ((x5_1).toNat * 7)).off + 4, none⟩ = some (.int .i64 ((rd_T52 l0 x5_1).f4)) ∧ w'.cell? ⟨(ad222.add ((x5_1).toNat * 7)).block, (ad222.add ((x5_1).toNat * 7)).off + 5, none⟩ = some (.int .i64 ((rd_T52 l0 x5_1).f5)) ∧ w'.cell? ⟨(ad222.add ((x5_1).toNat * 7)).block, (ad222.add ((x5_1).toNat * 7)).off + 6, none⟩ = some (.bool ((rd_T52 l0 x5_1).f6))) ∧ (Kd.R k60 60 w' w.heap.size (fun k_ => some k_ ≠ (.slice Ao14 x222000_1.length co14 : Value).ownBlock) s_.1 t233) ∧ (Kd.R k60 60 w' w.heap.size (fun k_ => some k_ ≠ (s_.1 : Value).ownBlock) (.slice Ao14 x222000_1.length co14) x222000_1) ∧ (w'.heap[gb221]? = some (.cells #[.slice Ao14 x222000_1.length co14, .int .i64 x222001_1] 46 (0, 0))) ∧ (w'.heap[s_.2]? = some (.cells #[.slice none 0 0, .int .i64 0] 46 (0, 0))) ∧ (w.heap.size ≤ s_.2) ∧ (w.heap.size ≤ s_.2) ∧ (gb221 ≠ s_.2) ∧ (s_.2 ≠ gb221) ∧ (Below w.heap.size w w')) ?_ ?_
        rotate_left
        ·intro hCont
         refine two_ (i := 5) (j := 10) (Ni := some 28) (Nj := some 6) #[true, true, true, true, true, true, false, false, false, false, false, false, false] #[true, true, true, true, true, false, false, false, false, false, true, false, false] rfl rfl rfl rfl (two_of HT_.out (by kernel_rfl)) (by decide) (by decide) (fun K hK => ?_) (fun K hK => ?_)
         ·skip
          refine goes_ Try.func22 (by kernel_rfl) rfl #[.agg #[.int .i64 ((rd_T52 l0 x5_1).f0), .int .i64 ((rd_T52 l0 x5_1).f1), .int .i64 ((rd_T52 l0 x5_1).f2), .int .i64 ((rd_T52 l0 x5_1).f3), .int .i64 ((rd_T52 l0 x5_1).f4), .int .i64 ((rd_T52 l0 x5_1).f5), .bool ((rd_T52 l0 x5_1).f6)]] (by rfl) rfl rfl (by (try simp only [List.map_toArray, List.map_cons, List.map_nil]); first | done | rfl | (simp only [List.length_drop, List.length_take]; rfl)) ?_
          with_reducible refine (w15_Num_op.calls ((rd_T52 l0 x5_1).f0) ((rd_T52 l0 x5_1).f1) ((rd_T52 l0 x5_1).f2) ((rd_T52 l0 x5_1).f3) ((rd_T52 l0 x5_1).f4) ((rd_T52 l0 x5_1).f5) ((rd_T52 l0 x5_1).f6) t223 t224 t225 t226 t227 t228 t229 t230 t231 t232 _ A11.out).mono ?_
          rintro e w16 ⟨rfl, hb⟩
          refine ⟨_, rfl, ?_⟩
          have n0_ := Aside0.mk (Kd.R_below (by (with_reducible repeat (first | apply Kd.R_alloc | apply Kd.R_drewN | apply Kd.R_drew)); exact HO_222000.out) hb)
          have n1_ := Aside0.mk (blk_below (g := gb221) (o := .cells #[.slice Ao14 x222000_1.length co14, .int .i64 x222001_1] 46 (0, 0)) bk_ hb)
          have n2_ := Aside0.mk (below_step bl_ hb)
          clear HO_222000
          clear BK221
          clear HB
          have HO_222000 := n0_
          have BK221 := n1_
          have HB := n2_
          clear n0_ n1_ n2_
          (try clear hb)
          (try clear hb2)
          (try clear hk)
          (try clear hi)
          refine hK.out _ _ ⟨(blk_cell BK221.out 0).trans rfl, (blk_cell BK221.out 1).trans rfl, ((HB.out.cell (World.block_lt_of_cell? w _ hw222_0)).trans hw222_0), ((HB.out.cell (World.block_lt_of_cell? w _ hw222_1)).trans hw222_1), ((HB.out.cell (World.block_lt_of_cell? w _ hw222_2)).trans hw222_2), ((HB.out.cell (World.block_lt_of_cell? w _ hw222_3)).trans hw222_3), ((HB.out.cell (World.block_lt_of_cell? w _ hw222_4)).trans hw222_4), ((HB.out.cell (World.block_lt_of_cell? w _ hw222_5)).trans hw222_5), ((HB.out.cell (World.block_lt_of_cell? w _ hw222_6)).trans hw222_6)⟩ (fun hHeld => ?_)
          clear hK K
          refine norm_ (a' := ?_) ?_ ?_
          rotate_left; (show Act.put _ (some 28) _ = _; simp only [Act.put, List.setIfInBounds_toArray, List.set_cons_zero, List.set_cons_succ, i64_w, i32_w]; rfl)
          refine two_ (i := 6) (j := 10) (Ni := some 29) (Nj := some 6) #[true, true, true, true, true, true, true, false, false, false, false, false, false] #[true, true, true, true, true, true, false, false, false, false, true, false, false] rfl rfl rfl rfl (two_of HT_.out (by kernel_rfl)) (by decide) (by decide) (fun K hK => ?_) (fun K hK => ?_)
          ·skip
           refine goes_ Try.func21 (by kernel_rfl) rfl #[.agg #[.slice Ao14 x222000_1.length co14, .int .i64 x222001_1], .agg #[.int .i64 t223, .int .i64 t224, .int .i64 t225, .int .i64 t226, .int .i64 t227, .int .i64 t228, .bool t229, .int .i64 t230, .int .i64 t231, .int .i64 t232], .slice none 0 0] (by rfl) rfl rfl (by (try simp only [List.map_toArray, List.map_cons, List.map_nil]); first | done | rfl | (simp only [List.length_drop, List.length_take]; rfl)) ?_
           refine (judge_May.calls kj5 _ _ x222000_1 x222001_1 t223 t224 t225 t226 t227 t228 t229 t230 t231 t232 _ _ ([] : List (S31)) t233 t236 t237 _ ?side1 ?side2 ?side3 ?side4 A12.out).mono ?_
           (case side1 => repeat (first | exact (Kd.R_reads' HO_222000.out).2.2 | (with_reducible refine Kd.C_alloc ?_ _) | (with_reducible refine Kd.C_drewN ?_ _) | (with_reducible refine Kd.C_drew ?_)))
           (case side2 => exact (Kd.R_reads' HO_222000.out).2.1)
           (case side3 => exact Kd.C_nil _ _)
           (case side4 => exact Nat.le_refl _)
           rintro e w17 ⟨v234, rfl, ho0, hb⟩
           refine ⟨_, rfl, ?_⟩
           have n0_ := Aside0.mk (Kd.R_elder' (by (with_reducible repeat (first | apply Kd.R_alloc | apply Kd.R_drewN | apply Kd.R_drew)); exact HO_222000.out) (Kd.R_base ho0) hb)
           have n1_ := Aside0.mk (Kd.R_lower (Kd.R_new' ho0 (Kd.R_lt (by (with_reducible repeat (first | apply Kd.R_alloc | apply Kd.R_drewN | apply Kd.R_drew)); exact HO_222000.out))) (below_size bl_))
           have n2_ := Aside0.mk (blk_below (g := gb221) (o := .cells #[.slice Ao14 x222000_1.length co14, .int .i64 x222001_1] 46 (0, 0)) bk_ hb)
           have n3_ := Aside0.mk (below_step bl_ hb)
           clear HO_222000
           clear BK221
           clear HB
           have HO_222000 := n0_
           have HO235 := n1_
           have BK221 := n2_
           have HB := n3_
           clear n0_ n1_ n2_ n3_
           (try clear hb)
           (try clear hb2)
           (try clear hk)
           (try clear hi)
           (try clear ho0)
           refine hK.out _ _ ⟨(blk_cell BK221.out 0).trans rfl, (blk_cell BK221.out 1).trans rfl, ((HB.out.cell (World.block_lt_of_cell? w _ hw222_0)).trans hw222_0), ((HB.out.cell (World.block_lt_of_cell? w _ hw222_1)).trans hw222_1), ((HB.out.cell (World.block_lt_of_cell? w _ hw222_2)).trans hw222_2), ((HB.out.cell (World.block_lt_of_cell? w _ hw222_3)).trans hw222_3), ((HB.out.cell (World.block_lt_of_cell? w _ hw222_4)).trans hw222_4), ((HB.out.cell (World.block_lt_of_cell? w _ hw222_5)).trans hw222_5), ((HB.out.cell (World.block_lt_of_cell? w _ hw222_6)).trans hw222_6)⟩ (fun hHeld => ?_)
           clear hK K
           refine norm_ (a' := ?_) ?_ ?_
           rotate_left; (show Act.put _ (some 29) _ = _; simp only [Act.put, List.setIfInBounds_toArray, List.set_cons_zero, List.set_cons_succ, i64_w, i32_w]; rfl)
           refine pure_ (i := 7) (N := some 22) (v := ?_) (a' := ?_) #[true, true, true, true, true, true, true, true, false, false, false, false, false] rfl rfl (any_of HT_.out (by kernel_rfl)) (fun _ _ _ h => h) (Or.inl ⟨by rfl, ?_⟩) ?_ ?_
           rotate_left; (intro w'; go_simp; with_reducible rfl); rotate_left; (simp only [Act.put, List.setIfInBounds_toArray, List.set_cons_zero, List.set_cons_succ, i64_w, i32_w]; rfl)
           refine pure_ (i := 8) (N := some 30) (v := ?_) (a' := ?_) #[true, true, true, true, true, true, true, true, true, false, false, false, false] rfl rfl (any_of HT_.out (by kernel_rfl)) (fun _ _ _ h => h) (Or.inl ⟨by rfl, ?_⟩) ?_ ?_
           rotate_left; (intro w'; go_simp; with_reducible rfl); rotate_left; (simp only [Act.put, List.setIfInBounds_toArray, List.set_cons_zero, List.set_cons_succ, i64_w, i32_w]; rfl)
           refine pure_ (i := 9) (N := some 31) (v := ?_) (a' := ?_) #[true, true, true, true, true, true, true, true, true, true, false, false, false] rfl rfl (any_of HT_.out (by kernel_rfl)) (fun _ _ _ h => h) (Or.inl ⟨by rfl, ?_⟩) ?_ ?_
           rotate_left; (intro w'; go_simp; with_reducible rfl); rotate_left; (simp only [Act.put, List.setIfInBounds_toArray, List.set_cons_zero, List.set_cons_succ, i64_w, i32_w]; rfl)
           refine one_ (i := 10) (N := some 6) #[true, true, true, true, true, true, true, true, true, true, true, false, false] rfl rfl (one_of HT_.out (by kernel_rfl)) (by decide) (fun K hK => ?_)
           refine box_step ?hg (N := 6) ?hd (cs := #[.slice none 0 0, .int .i64 0]) (t := 46) ?hr ?_; (case hd => rfl); (case hg => rfl); (case hr => first | (go_simp; done) | (go_simp; rfl))
           intro gb238 hg w18 hbox hb
           have n0_ := Aside0.mk (Kd.R_below (by (with_reducible repeat (first | apply Kd.R_alloc | apply Kd.R_drewN | apply Kd.R_drew)); exact HO_222000.out) hb)
           have n1_ := Aside0.mk (Kd.R_below (by (with_reducible repeat (first | apply Kd.R_alloc | apply Kd.R_drewN | apply Kd.R_drew)); exact HO235.out) hb)
           have n2_ := Aside0.mk (blk_below (g := gb221) (o := .cells #[.slice Ao14 x222000_1.length co14, .int .i64 x222001_1] 46 (0, 0)) bk_ hb)
           have n3_ := Aside0.mk (below_step bl_ hb)
           have n4_ := Aside0.mk (hbox)
           have n5_ := Aside0.mk ((by rw [hg]; exact (below_size bl_) : w.heap.size ≤ gb238))
           have n6_ := Aside0.mk ((by rw [hg]; exact (below_size bl_) : w.heap.size ≤ gb238))
           have n7_ := Aside0.mk ((by rw [hg]; exact Nat.ne_of_lt (blk_lt (g := gb221) (o := .cells #[.slice Ao14 x222000_1.length co14, .int .i64 x222001_1] 46 (0, 0)) bk_) : gb221 ≠ gb238))
           have n8_ := Aside0.mk ((by rw [hg]; exact Nat.ne_of_gt (blk_lt (g := gb221) (o := .cells #[.slice Ao14 x222000_1.length co14, .int .i64 x222001_1] 46 (0, 0)) bk_) : gb238 ≠ gb221))
           clear HO_222000
           clear HO235
           clear BK221
           clear HB
           have HO_222000 := n0_
           have HO235 := n1_
           have BK221 := n2_
           have HB := n3_
           have BK238 := n4_
           have GW238 := n5_
           have GE238 := n6_
           have NB221_238 := n7_
           have NB238_221 := n8_
           clear n0_ n1_ n2_ n3_ n4_ n5_ n6_ n7_ n8_
           clear hb hbox hg
           refine hK.out _ _ ⟨(blk_cell BK221.out 0).trans rfl, (blk_cell BK221.out 1).trans rfl, ((HB.out.cell (World.block_lt_of_cell? w _ hw222_0)).trans hw222_0), ((HB.out.cell (World.block_lt_of_cell? w _ hw222_1)).trans hw222_1), ((HB.out.cell (World.block_lt_of_cell? w _ hw222_2)).trans hw222_2), ((HB.out.cell (World.block_lt_of_cell? w _ hw222_3)).trans hw222_3), ((HB.out.cell (World.block_lt_of_cell? w _ hw222_4)).trans hw222_4), ((HB.out.cell (World.block_lt_of_cell? w _ hw222_5)).trans hw222_5), ((HB.out.cell (World.block_lt_of_cell? w _ hw222_6)).trans hw222_6)⟩ (fun hHeld => ?_)
           clear hK K
           refine norm_ (a' := ?_) ?_ ?_
           rotate_left; (show Act.put _ (some 6) _ = _; simp only [Act.put, List.setIfInBounds_toArray, List.set_cons_zero, List.set_cons_succ, i64_w, i32_w]; rfl)
           exact norm_ (by simp only [putAll, Act.put, List.setIfInBounds_toArray, List.set_cons_zero, List.set_cons_succ]) (hCont (v234, gb238) _ ⟨hHeld, (by (with_reducible repeat (first | apply Kd.R_alloc | apply Kd.R_drewN | apply Kd.R_drew)); exact Kd.R_mono HO235.out (fun _ hk => hk.2)), (by (with_reducible repeat (first | apply Kd.R_alloc | apply Kd.R_drewN | apply Kd.R_drew)); exact Kd.R_mono HO_222000.out (fun _ hk => hk.2)), bk_, bk_, GW238.out, GE238.out, NB221_238.out, NB238_221.out, bl_⟩)
          ·skip
           refine box_step ?hg (N := 6) ?hd (cs := #[.slice none 0 0, .int .i64 0]) (t := 46) ?hr ?_; (case hd => rfl); (case hg => rfl); (case hr => first | (go_simp; done) | (go_simp; rfl))
           intro gb238 hg w17 hbox hb
           have n0_ := Aside0.mk (Kd.R_below (by (with_reducible repeat (first | apply Kd.R_alloc | apply Kd.R_drewN | apply Kd.R_drew)); exact HO_222000.out) hb)
           have n1_ := Aside0.mk (blk_below (g := gb221) (o := .cells #[.slice Ao14 x222000_1.length co14, .int .i64 x222001_1] 46 (0, 0)) bk_ hb)
           have n2_ := Aside0.mk (below_step bl_ hb)
           have n3_ := Aside0.mk (hbox)
           have n4_ := Aside0.mk ((by rw [hg]; exact (below_size bl_) : w.heap.size ≤ gb238))
           have n5_ := Aside0.mk ((by rw [hg]; exact (below_size bl_) : w.heap.size ≤ gb238))
           have n6_ := Aside0.mk ((by rw [hg]; exact Nat.ne_of_lt (blk_lt (g := gb221) (o := .cells #[.slice Ao14 x222000_1.length co14, .int .i64 x222001_1] 46 (0, 0)) bk_) : gb221 ≠ gb238))
           have n7_ := Aside0.mk ((by rw [hg]; exact Nat.ne_of_gt (blk_lt (g := gb221) (o := .cells #[.slice Ao14 x222000_1.length co14, .int .i64 x222001_1] 46 (0, 0)) bk_) : gb238 ≠ gb221))
           clear HO_222000
           clear BK221
           clear HB
           have HO_222000 := n0_
           have BK221 := n1_
           have HB := n2_
           have BK238 := n3_
           have GW238 := n4_
           have GE238 := n5_
           have NB221_238 := n6_
           have NB238_221 := n7_
           clear n0_ n1_ n2_ n3_ n4_ n5_ n6_ n7_
           clear hb hbox hg
           refine hK.out _ _ ⟨(blk_cell BK221.out 0).trans rfl, (blk_cell BK221.out 1).trans rfl, ((HB.out.cell (World.block_lt_of_cell? w _ hw222_0)).trans hw222_0), ((HB.out.cell (World.block_lt_of_cell? w _ hw222_1)).trans hw222_1), ((HB.out.cell (World.block_lt_of_cell? w _ hw222_2)).trans hw222_2), ((HB.out.cell (World.block_lt_of_cell? w _ hw222_3)).trans hw222_3), ((HB.out.cell (World.block_lt_of_cell? w _ hw222_4)).trans hw222_4), ((HB.out.cell (World.block_lt_of_cell? w _ hw222_5)).trans hw222_5), ((HB.out.cell (World.block_lt_of_cell? w _ hw222_6)).trans hw222_6)⟩ (fun hHeld => ?_)
           clear hK K
           refine norm_ (a' := ?_) ?_ ?_
           rotate_left; (show Act.put _ (some 6) _ = _; simp only [Act.put, List.setIfInBounds_toArray, List.set_cons_zero, List.set_cons_succ, i64_w, i32_w]; rfl)
           refine one_ (i := 6) (N := some 29) #[true, true, true, true, true, true, true, false, false, false, true, false, false] rfl rfl (one_of HT_.out (by kernel_rfl)) (by decide) (fun K hK => ?_)
           refine goes_ Try.func21 (by kernel_rfl) rfl #[.agg #[.slice Ao14 x222000_1.length co14, .int .i64 x222001_1], .agg #[.int .i64 t223, .int .i64 t224, .int .i64 t225, .int .i64 t226, .int .i64 t227, .int .i64 t228, .bool t229, .int .i64 t230, .int .i64 t231, .int .i64 t232], .slice none 0 0] (by rfl) rfl rfl (by (try simp only [List.map_toArray, List.map_cons, List.map_nil]); first | done | rfl | (simp only [List.length_drop, List.length_take]; rfl)) ?_
           refine (judge_May.calls kj5 _ _ x222000_1 x222001_1 t223 t224 t225 t226 t227 t228 t229 t230 t231 t232 _ _ ([] : List (S31)) t233 t236 t237 _ ?side1 ?side2 ?side3 ?side4 A12.out).mono ?_
           (case side1 => repeat (first | exact (Kd.R_reads' HO_222000.out).2.2 | (with_reducible refine Kd.C_alloc ?_ _) | (with_reducible refine Kd.C_drewN ?_ _) | (with_reducible refine Kd.C_drew ?_)))
           (case side2 => exact (Kd.R_reads' HO_222000.out).2.1)
           (case side3 => exact Kd.C_nil _ _)
           (case side4 => exact Nat.le_refl _)
           rintro e w18 ⟨v234, rfl, ho0, hb⟩
           refine ⟨_, rfl, ?_⟩
           have n0_ := Aside0.mk (Kd.R_elder' (by (with_reducible repeat (first | apply Kd.R_alloc | apply Kd.R_drewN | apply Kd.R_drew)); exact HO_222000.out) (Kd.R_base ho0) hb)
           have n1_ := Aside0.mk (Kd.R_lower (Kd.R_new' ho0 (Kd.R_lt (by (with_reducible repeat (first | apply Kd.R_alloc | apply Kd.R_drewN | apply Kd.R_drew)); exact HO_222000.out))) (below_size bl_))
           have n2_ := Aside0.mk (blk_below (g := gb221) (o := .cells #[.slice Ao14 x222000_1.length co14, .int .i64 x222001_1] 46 (0, 0)) bk_ hb)
           have n3_ := Aside0.mk (blk_below (g := gb238) (o := .cells #[.slice none 0 0, .int .i64 0] 46 (0, 0)) bk_ hb)
           have n4_ := Aside0.mk (below_step bl_ hb)
           clear HO_222000
           clear BK221
           clear BK238
           clear HB
           have HO_222000 := n0_
           have HO235 := n1_
           have BK221 := n2_
           have BK238 := n3_
           have HB := n4_
           clear n0_ n1_ n2_ n3_ n4_
           (try clear hb)
           (try clear hb2)
           (try clear hk)
           (try clear hi)
           (try clear ho0)
           refine hK.out _ _ ⟨(blk_cell BK221.out 0).trans rfl, (blk_cell BK221.out 1).trans rfl, ((HB.out.cell (World.block_lt_of_cell? w _ hw222_0)).trans hw222_0), ((HB.out.cell (World.block_lt_of_cell? w _ hw222_1)).trans hw222_1), ((HB.out.cell (World.block_lt_of_cell? w _ hw222_2)).trans hw222_2), ((HB.out.cell (World.block_lt_of_cell? w _ hw222_3)).trans hw222_3), ((HB.out.cell (World.block_lt_of_cell? w _ hw222_4)).trans hw222_4), ((HB.out.cell (World.block_lt_of_cell? w _ hw222_5)).trans hw222_5), ((HB.out.cell (World.block_lt_of_cell? w _ hw222_6)).trans hw222_6)⟩ (fun hHeld => ?_)
           clear hK K
           refine norm_ (a' := ?_) ?_ ?_
           rotate_left; (show Act.put _ (some 29) _ = _; simp only [Act.put, List.setIfInBounds_toArray, List.set_cons_zero, List.set_cons_succ, i64_w, i32_w]; rfl)
           refine pure_ (i := 7) (N := some 22) (v := ?_) (a' := ?_) #[true, true, true, true, true, true, true, true, false, false, true, false, false] rfl rfl (any_of HT_.out (by kernel_rfl)) (fun _ _ _ h => h) (Or.inl ⟨by rfl, ?_⟩) ?_ ?_
           rotate_left; (intro w'; go_simp; with_reducible rfl); rotate_left; (simp only [Act.put, List.setIfInBounds_toArray, List.set_cons_zero, List.set_cons_succ, i64_w, i32_w]; rfl)
           refine pure_ (i := 8) (N := some 30) (v := ?_) (a' := ?_) #[true, true, true, true, true, true, true, true, true, false, true, false, false] rfl rfl (any_of HT_.out (by kernel_rfl)) (fun _ _ _ h => h) (Or.inl ⟨by rfl, ?_⟩) ?_ ?_
           rotate_left; (intro w'; go_simp; with_reducible rfl); rotate_left; (simp only [Act.put, List.setIfInBounds_toArray, List.set_cons_zero, List.set_cons_succ, i64_w, i32_w]; rfl)
           refine pure_ (i := 9) (N := some 31) (v := ?_) (a' := ?_) #[true, true, true, true, true, true, true, true, true, true, true, false, false] rfl rfl (any_of HT_.out (by kernel_rfl)) (fun _ _ _ h => h) (Or.inl ⟨by rfl, ?_⟩) ?_ ?_
           rotate_left; (intro w'; go_simp; with_reducible rfl); rotate_left; (simp only [Act.put, List.setIfInBounds_toArray, List.set_cons_zero, List.set_cons_succ, i64_w, i32_w]; rfl)
           exact norm_ (by simp only [putAll, Act.put, List.setIfInBounds_toArray, List.set_cons_zero, List.set_cons_succ]) (hCont (v234, gb238) _ ⟨hHeld, (by (with_reducible repeat (first | apply Kd.R_alloc | apply Kd.R_drewN | apply Kd.R_drew)); exact Kd.R_mono HO235.out (fun _ hk => hk.2)), (by (with_reducible repeat (first | apply Kd.R_alloc | apply Kd.R_drewN | apply Kd.R_drew)); exact Kd.R_mono HO_222000.out (fun _ hk => hk.2)), bk_, bk_, GW238.out, GE238.out, NB221_238.out, NB238_221.out, bl_⟩)
         ·skip
          refine box_step ?hg (N := 6) ?hd (cs := #[.slice none 0 0, .int .i64 0]) (t := 46) ?hr ?_; (case hd => rfl); (case hg => rfl); (case hr => first | (go_simp; done) | (go_simp; rfl))
          intro gb238 hg w16 hbox hb
          have n0_ := Aside0.mk (Kd.R_below (by (with_reducible repeat (first | apply Kd.R_alloc | apply Kd.R_drewN | apply Kd.R_drew)); exact HO_222000.out) hb)
          have n1_ := Aside0.mk (blk_below (g := gb221) (o := .cells #[.slice Ao14 x222000_1.length co14, .int .i64 x222001_1] 46 (0, 0)) bk_ hb)
          have n2_ := Aside0.mk (below_step bl_ hb)
          have n3_ := Aside0.mk (hbox)
          have n4_ := Aside0.mk ((by rw [hg]; exact (below_size bl_) : w.heap.size ≤ gb238))
          have n5_ := Aside0.mk ((by rw [hg]; exact (below_size bl_) : w.heap.size ≤ gb238))
          have n6_ := Aside0.mk ((by rw [hg]; exact Nat.ne_of_lt (blk_lt (g := gb221) (o := .cells #[.slice Ao14 x222000_1.length co14, .int .i64 x222001_1] 46 (0, 0)) bk_) : gb221 ≠ gb238))
          have n7_ := Aside0.mk ((by rw [hg]; exact Nat.ne_of_gt (blk_lt (g := gb221) (o := .cells #[.slice Ao14 x222000_1.length co14, .int .i64 x222001_1] 46 (0, 0)) bk_) : gb238 ≠ gb221))
          clear HO_222000
          clear BK221
          clear HB
          have HO_222000 := n0_
          have BK221 := n1_
          have HB := n2_
          have BK238 := n3_
          have GW238 := n4_
          have GE238 := n5_
          have NB221_238 := n6_
          have NB238_221 := n7_
          clear n0_ n1_ n2_ n3_ n4_ n5_ n6_ n7_
          clear hb hbox hg
          refine hK.out _ _ ⟨(blk_cell BK221.out 0).trans rfl, (blk_cell BK221.out 1).trans rfl, ((HB.out.cell (World.block_lt_of_cell? w _ hw222_0)).trans hw222_0), ((HB.out.cell (World.block_lt_of_cell? w _ hw222_1)).trans hw222_1), ((HB.out.cell (World.block_lt_of_cell? w _ hw222_2)).trans hw222_2), ((HB.out.cell (World.block_lt_of_cell? w _ hw222_3)).trans hw222_3), ((HB.out.cell (World.block_lt_of_cell? w _ hw222_4)).trans hw222_4), ((HB.out.cell (World.block_lt_of_cell? w _ hw222_5)).trans hw222_5), ((HB.out.cell (World.block_lt_of_cell? w _ hw222_6)).trans hw222_6)⟩ (fun hHeld => ?_)
          clear hK K
          refine norm_ (a' := ?_) ?_ ?_
          rotate_left; (show Act.put _ (some 6) _ = _; simp only [Act.put, List.setIfInBounds_toArray, List.set_cons_zero, List.set_cons_succ, i64_w, i32_w]; rfl)
          refine one_ (i := 5) (N := some 28) #[true, true, true, true, true, true, false, false, false, false, true, false, false] rfl rfl (one_of HT_.out (by kernel_rfl)) (by decide) (fun K hK => ?_)
          refine goes_ Try.func22 (by kernel_rfl) rfl #[.agg #[.int .i64 ((rd_T52 l0 x5_1).f0), .int .i64 ((rd_T52 l0 x5_1).f1), .int .i64 ((rd_T52 l0 x5_1).f2), .int .i64 ((rd_T52 l0 x5_1).f3), .int .i64 ((rd_T52 l0 x5_1).f4), .int .i64 ((rd_T52 l0 x5_1).f5), .bool ((rd_T52 l0 x5_1).f6)]] (by rfl) rfl rfl (by (try simp only [List.map_toArray, List.map_cons, List.map_nil]); first | done | rfl | (simp only [List.length_drop, List.length_take]; rfl)) ?_
          with_reducible refine (w15_Num_op.calls ((rd_T52 l0 x5_1).f0) ((rd_T52 l0 x5_1).f1) ((rd_T52 l0 x5_1).f2) ((rd_T52 l0 x5_1).f3) ((rd_T52 l0 x5_1).f4) ((rd_T52 l0 x5_1).f5) ((rd_T52 l0 x5_1).f6) t223 t224 t225 t226 t227 t228 t229 t230 t231 t232 _ A11.out).mono ?_
          rintro e w17 ⟨rfl, hb⟩
          refine ⟨_, rfl, ?_⟩
          have n0_ := Aside0.mk (Kd.R_below (by (with_reducible repeat (first | apply Kd.R_alloc | apply Kd.R_drewN | apply Kd.R_drew)); exact HO_222000.out) hb)
          have n1_ := Aside0.mk (blk_below (g := gb221) (o := .cells #[.slice Ao14 x222000_1.length co14, .int .i64 x222001_1] 46 (0, 0)) bk_ hb)
          have n2_ := Aside0.mk (blk_below (g := gb238) (o := .cells #[.slice none 0 0, .int .i64 0] 46 (0, 0)) bk_ hb)
          have n3_ := Aside0.mk (below_step bl_ hb)
          clear HO_222000
          clear BK221
          clear BK238
          clear HB
          have HO_222000 := n0_
          have BK221 := n1_
          have BK238 := n2_
          have HB := n3_
          clear n0_ n1_ n2_ n3_
          (try clear hb)
          (try clear hb2)
          (try clear hk)
          (try clear hi)
          refine hK.out _ _ ⟨(blk_cell BK221.out 0).trans rfl, (blk_cell BK221.out 1).trans rfl, ((HB.out.cell (World.block_lt_of_cell? w _ hw222_0)).trans hw222_0), ((HB.out.cell (World.block_lt_of_cell? w _ hw222_1)).trans hw222_1), ((HB.out.cell (World.block_lt_of_cell? w _ hw222_2)).trans hw222_2), ((HB.out.cell (World.block_lt_of_cell? w _ hw222_3)).trans hw222_3), ((HB.out.cell (World.block_lt_of_cell? w _ hw222_4)).trans hw222_4), ((HB.out.cell (World.block_lt_of_cell? w _ hw222_5)).trans hw222_5), ((HB.out.cell (World.block_lt_of_cell? w _ hw222_6)).trans hw222_6)⟩ (fun hHeld => ?_)
          clear hK K
          refine norm_ (a' := ?_) ?_ ?_
          rotate_left; (show Act.put _ (some 28) _ = _; simp only [Act.put, List.setIfInBounds_toArray, List.set_cons_zero, List.set_cons_succ, i64_w, i32_w]; rfl)
          refine one_ (i := 6) (N := some 29) #[true, true, true, true, true, true, true, false, false, false, true, false, false] rfl rfl (one_of HT_.out (by kernel_rfl)) (by decide) (fun K hK => ?_)
          refine goes_ Try.func21 (by kernel_rfl) rfl #[.agg #[.slice Ao14 x222000_1.length co14, .int .i64 x222001_1], .agg #[.int .i64 t223, .int .i64 t224, .int .i64 t225, .int .i64 t226, .int .i64 t227, .int .i64 t228, .bool t229, .int .i64 t230, .int .i64 t231, .int .i64 t232], .slice none 0 0] (by rfl) rfl rfl (by (try simp only [List.map_toArray, List.map_cons, List.map_nil]); first | done | rfl | (simp only [List.length_drop, List.length_take]; rfl)) ?_
          refine (judge_May.calls kj5 _ _ x222000_1 x222001_1 t223 t224 t225 t226 t227 t228 t229 t230 t231 t232 _ _ ([] : List (S31)) t233 t236 t237 _ ?side1 ?side2 ?side3 ?side4 A12.out).mono ?_
          (case side1 => repeat (first | exact (Kd.R_reads' HO_222000.out).2.2 | (with_reducible refine Kd.C_alloc ?_ _) | (with_reducible refine Kd.C_drewN ?_ _) | (with_reducible refine Kd.C_drew ?_)))
          (case side2 => exact (Kd.R_reads' HO_222000.out).2.1)
          (case side3 => exact Kd.C_nil _ _)
          (case side4 => exact Nat.le_refl _)
          rintro e w18 ⟨v234, rfl, ho0, hb⟩
          refine ⟨_, rfl, ?_⟩
          have n0_ := Aside0.mk (Kd.R_elder' (by (with_reducible repeat (first | apply Kd.R_alloc | apply Kd.R_drewN | apply Kd.R_drew)); exact HO_222000.out) (Kd.R_base ho0) hb)
          have n1_ := Aside0.mk (Kd.R_lower (Kd.R_new' ho0 (Kd.R_lt (by (with_reducible repeat (first | apply Kd.R_alloc | apply Kd.R_drewN | apply Kd.R_drew)); exact HO_222000.out))) (below_size bl_))
          have n2_ := Aside0.mk (blk_below (g := gb221) (o := .cells #[.slice Ao14 x222000_1.length co14, .int .i64 x222001_1] 46 (0, 0)) bk_ hb)
          have n3_ := Aside0.mk (blk_below (g := gb238) (o := .cells #[.slice none 0 0, .int .i64 0] 46 (0, 0)) bk_ hb)
          have n4_ := Aside0.mk (below_step bl_ hb)
          clear HO_222000
          clear BK221
          clear BK238
          clear HB
          have HO_222000 := n0_
          have HO235 := n1_
          have BK221 := n2_
          have BK238 := n3_
          have HB := n4_
          clear n0_ n1_ n2_ n3_ n4_
          (try clear hb)
          (try clear hb2)
          (try clear hk)
          (try clear hi)
          (try clear ho0)
          refine hK.out _ _ ⟨(blk_cell BK221.out 0).trans rfl, (blk_cell BK221.out 1).trans rfl, ((HB.out.cell (World.block_lt_of_cell? w _ hw222_0)).trans hw222_0), ((HB.out.cell (World.block_lt_of_cell? w _ hw222_1)).trans hw222_1), ((HB.out.cell (World.block_lt_of_cell? w _ hw222_2)).trans hw222_2), ((HB.out.cell (World.block_lt_of_cell? w _ hw222_3)).trans hw222_3), ((HB.out.cell (World.block_lt_of_cell? w _ hw222_4)).trans hw222_4), ((HB.out.cell (World.block_lt_of_cell? w _ hw222_5)).trans hw222_5), ((HB.out.cell (World.block_lt_of_cell? w _ hw222_6)).trans hw222_6)⟩ (fun hHeld => ?_)
          clear hK K
          refine norm_ (a' := ?_) ?_ ?_
          rotate_left; (show Act.put _ (some 29) _ = _; simp only [Act.put, List.setIfInBounds_toArray, List.set_cons_zero, List.set_cons_succ, i64_w, i32_w]; rfl)
          refine pure_ (i := 7) (N := some 22) (v := ?_) (a' := ?_) #[true, true, true, true, true, true, true, true, false, false, true, false, false] rfl rfl (any_of HT_.out (by kernel_rfl)) (fun _ _ _ h => h) (Or.inl ⟨by rfl, ?_⟩) ?_ ?_
          rotate_left; (intro w'; go_simp; with_reducible rfl); rotate_left; (simp only [Act.put, List.setIfInBounds_toArray, List.set_cons_zero, List.set_cons_succ, i64_w, i32_w]; rfl)
          refine pure_ (i := 8) (N := some 30) (v := ?_) (a' := ?_) #[true, true, true, true, true, true, true, true, true, false, true, false, false] rfl rfl (any_of HT_.out (by kernel_rfl)) (fun _ _ _ h => h) (Or.inl ⟨by rfl, ?_⟩) ?_ ?_
          rotate_left; (intro w'; go_simp; with_reducible rfl); rotate_left; (simp only [Act.put, List.setIfInBounds_toArray, List.set_cons_zero, List.set_cons_succ, i64_w, i32_w]; rfl)
          refine pure_ (i := 9) (N := some 31) (v := ?_) (a' := ?_) #[true, true, true, true, true, true, true, true, true, true, true, false, false] rfl rfl (any_of HT_.out (by kernel_rfl)) (fun _ _ _ h => h) (Or.inl ⟨by rfl, ?_⟩) ?_ ?_
          rotate_left; (intro w'; go_simp; with_reducible rfl); rotate_left; (simp only [Act.put, List.setIfInBounds_toArray, List.set_cons_zero, List.set_cons_succ, i64_w, i32_w]; rfl)
          exact norm_ (by simp only [putAll, Act.put, List.setIfInBounds_toArray, List.set_cons_zero, List.set_cons_succ]) (hCont (v234, gb238) _ ⟨hHeld, (by (with_reducible repeat (first | apply Kd.R_alloc | apply Kd.R_drewN | apply Kd.R_drew)); exact Kd.R_mono HO235.out (fun _ hk => hk.2)), (by (with_reducible repeat (first | apply Kd.R_alloc | apply Kd.R_drewN | apply Kd.R_drew)); exact Kd.R_mono HO_222000.out (fun _ hk => hk.2)), bk_, bk_, GW238.out, GE238.out, NB221_238.out, NB238_221.out, bl_⟩)
        rintro ⟨v234, gb238⟩ w19 ⟨hS_, h0_, h1_, h2_, h3_, h4_, h5_, h6_, h7_, h8_⟩
        have n0_ : Aside0 (Kd.R k60 60 w19 w.heap.size (fun k_ => some k_ ≠ (.slice Ao14 x222000_1.length co14 : Value).ownBlock) v234 t233) := ⟨h0_⟩
        have n1_ : Aside0 (Kd.R k60 60 w19 w.heap.size (fun k_ => some k_ ≠ (v234 : Value).ownBlock) (.slice Ao14 x222000_1.length co14) x222000_1) := ⟨h1_⟩
        have n2_ : Aside0 (w19.heap[gb221]? = some (.cells #[.slice Ao14 x222000_1.length co14, .int .i64 x222001_1] 46 (0, 0))) := ⟨h2_⟩
        have n3_ : Aside0 (w19.heap[gb238]? = some (.cells #[.slice none 0 0, .int .i64 0] 46 (0, 0))) := ⟨h3_⟩
        have n4_ : Aside0 (w.heap.size ≤ gb238) := ⟨h4_⟩
        have n5_ : Aside0 (w.heap.size ≤ gb238) := ⟨h5_⟩
        have n6_ : Aside0 (gb221 ≠ gb238) := ⟨h6_⟩
        have n7_ : Aside0 (gb238 ≠ gb221) := ⟨h7_⟩
        have n8_ : Aside0 (Below w.heap.size w w19) := ⟨h8_⟩
        clear HO_222000
        clear BK221
        clear HB
        clear h0_ h1_ h2_ h3_ h4_ h5_ h6_ h7_ h8_
        have HO235 := n0_
        have HO_222000 := n1_
        have BK221 := n2_
        have BK238 := n3_
        have GW238 := n4_
        have GE238 := n5_
        have NB221_238 := n6_
        have NB238_221 := n7_
        have HB := n8_
        clear n0_ n1_ n2_ n3_ n4_ n5_ n6_ n7_ n8_
        have hHeld : w19.cell? ⟨gb221, 0, none⟩ = some (.slice Ao14 x222000_1.length co14) ∧ w19.cell? ⟨gb221, 1, none⟩ = some (.int .i64 x222001_1) ∧ w19.cell? (ad222.add ((x5_1).toNat * 7)) = some (.int .i64 ((rd_T52 l0 x5_1).f0)) ∧ w19.cell? ⟨(ad222.add ((x5_1).toNat * 7)).block, (ad222.add ((x5_1).toNat * 7)).off + 1, none⟩ = some (.int .i64 ((rd_T52 l0 x5_1).f1)) ∧ w19.cell? ⟨(ad222.add ((x5_1).toNat * 7)).block, (ad222.add ((x5_1).toNat * 7)).off + 2, none⟩ = some (.int .i64 ((rd_T52 l0 x5_1).f2)) ∧ w19.cell? ⟨(ad222.add ((x5_1).toNat * 7)).block, (ad222.add ((x5_1).toNat * 7)).off + 3, none⟩ = some (.int .i64 ((rd_T52 l0 x5_1).f3)) ∧ w19.cell? ⟨(ad222.add ((x5_1).toNat * 7)).block, (ad222.add ((x5_1).toNat * 7)).off + 4, none⟩ = some (.int .i64 ((rd_T52 l0 x5_1).f4)) ∧ w19.cell? ⟨(ad222.add ((x5_1).toNat * 7)).block, (ad222.add ((x5_1).toNat * 7)).off + 5, none⟩ = some (.int .i64 ((rd_T52 l0 x5_1).f5)) ∧ w19.cell? ⟨(ad222.add ((x5_1).toNat * 7)).block, (ad222.add ((x5_1).toNat * 7)).off + 6, none⟩ = some (.bool ((rd_T52 l0 x5_1).f6)) := hS_
        obtain ⟨Ao20, co20, eo20⟩ := Kd.R_slice HO235.out
        (first | subst eo20 | (injection eo20 with f1_ f2_ f3_; have f4_ := f1_.symm; have f5_ := f3_.symm; clear f1_ f2_ f3_; subst f4_; subst f5_))
        refine norm_ (a' := ?_) ?_ ?_
        rotate_left
        ·simp only [putAll, Act.put, List.setIfInBounds_toArray, List.set_cons_zero, List.set_cons_succ]
         rfl
        refine one_ (i := 11) (N := none) #[true, true, true, true, true, true, true, true, true, true, true, true, false] rfl rfl (one_of HT_.out (by kernel_rfl)) (by decide) (fun K hK => ?_)
        have hs21 : w19.cell? ⟨gb238, 0, none⟩ = some (.slice none 0 0) := (blk_cell BK238.out 0).trans rfl
        have hfs21 := blk_frozen BK238.out 0
        have hns21_0 := NB221_238.out
        have hms21_0 := NB238_221.out
        have hs22 : w19.cell? ⟨gb238, 1, none⟩ = some (.int .i64 0) := (blk_cell BK238.out 1).trans rfl
        have hfs22 := blk_frozen BK238.out 1
        have hns22_0 := NB221_238.out
        have hms22_0 := NB238_221.out
        refine skip_ (w1 := ?_) (by rfl) rfl ?_ ?_
        rotate_left
        ·go_simp
         rfl
        refine hK.out _ _ ⟨((cell_far (p := ⟨gb238, _, none⟩) NB221_238.out _).trans (((cell_far (p := ⟨gb238, _, none⟩) NB221_238.out _).trans (hHeld.1)))), ((cell_far (p := ⟨gb238, _, none⟩) NB221_238.out _).trans (((cell_far (p := ⟨gb238, _, none⟩) NB221_238.out _).trans (hHeld.2.1)))), ((cell_far (p := ⟨gb238, _, none⟩) (by first | exact Nat.ne_of_lt (Nat.lt_of_lt_of_le (by have := World.block_lt_of_cell? _ _ hw222_0; first | rwa [add_block] at this | exact this) GW238.out) | (rw [add_block]; exact Nat.ne_of_lt (Nat.lt_of_lt_of_le (by have := World.block_lt_of_cell? _ _ hw222_0; first | rwa [add_block] at this | exact this) GW238.out)) | (show (Addr.add _ _).block ≠ _; rw [add_block]; exact Nat.ne_of_lt (Nat.lt_of_lt_of_le (by have := World.block_lt_of_cell? _ _ hw222_0; first | rwa [add_block] at this | exact this) GW238.out)) | (dsimp only; exact Nat.ne_of_lt (Nat.lt_of_lt_of_le (by have := World.block_lt_of_cell? _ _ hw222_0; first | rwa [add_block] at this | exact this) GW238.out))) _).trans (((cell_far (p := ⟨gb238, _, none⟩) (by first | exact Nat.ne_of_lt (Nat.lt_of_lt_of_le (by have := World.block_lt_of_cell? _ _ hw222_0; first | rwa [add_block] at this | exact this) GW238.out) | (rw [add_block]; exact Nat.ne_of_lt (Nat.lt_of_lt_of_le (by have := World.block_lt_of_cell? _ _ hw222_0; first | rwa [add_block] at this | exact this) GW238.out)) | (show (Addr.add _ _).block ≠ _; rw [add_block]; exact Nat.ne_of_lt (Nat.lt_of_lt_of_le (by have := World.block_lt_of_cell? _ _ hw222_0; first | rwa [add_block] at this | exact this) GW238.out)) | (dsimp only; exact Nat.ne_of_lt (Nat.lt_of_lt_of_le (by have := World.block_lt_of_cell? _ _ hw222_0; first | rwa [add_block] at this | exact this) GW238.out))) _).trans (hHeld.2.2.1)))), ((cell_far (p := ⟨gb238, _, none⟩) (by first | exact Nat.ne_of_lt (Nat.lt_of_lt_of_le (by have := World.block_lt_of_cell? _ _ hw222_1; first | rwa [add_block] at this | exact this) GW238.out) | (rw [add_block]; exact Nat.ne_of_lt (Nat.lt_of_lt_of_le (by have := World.block_lt_of_cell? _ _ hw222_1; first | rwa [add_block] at this | exact this) GW238.out)) | (show (Addr.add _ _).block ≠ _; rw [add_block]; exact Nat.ne_of_lt (Nat.lt_of_lt_of_le (by have := World.block_lt_of_cell? _ _ hw222_1; first | rwa [add_block] at this | exact this) GW238.out)) | (dsimp only; exact Nat.ne_of_lt (Nat.lt_of_lt_of_le (by have := World.block_lt_of_cell? _ _ hw222_1; first | rwa [add_block] at this | exact this) GW238.out))) _).trans (((cell_far (p := ⟨gb238, _, none⟩) (by first | exact Nat.ne_of_lt (Nat.lt_of_lt_of_le (by have := World.block_lt_of_cell? _ _ hw222_1; first | rwa [add_block] at this | exact this) GW238.out) | (rw [add_block]; exact Nat.ne_of_lt (Nat.lt_of_lt_of_le (by have := World.block_lt_of_cell? _ _ hw222_1; first | rwa [add_block] at this | exact this) GW238.out)) | (show (Addr.add _ _).block ≠ _; rw [add_block]; exact Nat.ne_of_lt (Nat.lt_of_lt_of_le (by have := World.block_lt_of_cell? _ _ hw222_1; first | rwa [add_block] at this | exact this) GW238.out)) | (dsimp only; exact Nat.ne_of_lt (Nat.lt_of_lt_of_le (by have := World.block_lt_of_cell? _ _ hw222_1; first | rwa [add_block] at this | exact this) GW238.out))) _).trans (hHeld.2.2.2.1)))), ((cell_far (p := ⟨gb238, _, none⟩) (by first | exact Nat.ne_of_lt (Nat.lt_of_lt_of_le (by have := World.block_lt_of_cell? _ _ hw222_2; first | rwa [add_block] at this | exact this) GW238.out) | (rw [add_block]; exact Nat.ne_of_lt (Nat.lt_of_lt_of_le (by have := World.block_lt_of_cell? _ _ hw222_2; first | rwa [add_block] at this | exact this) GW238.out)) | (show (Addr.add _ _).block ≠ _; rw [add_block]; exact Nat.ne_of_lt (Nat.lt_of_lt_of_le (by have := World.block_lt_of_cell? _ _ hw222_2; first | rwa [add_block] at this | exact this) GW238.out)) | (dsimp only; exact Nat.ne_of_lt (Nat.lt_of_lt_of_le (by have := World.block_lt_of_cell? _ _ hw222_2; first | rwa [add_block] at this | exact this) GW238.out))) _).trans (((cell_far (p := ⟨gb238, _, none⟩) (by first | exact Nat.ne_of_lt (Nat.lt_of_lt_of_le (by have := World.block_lt_of_cell? _ _ hw222_2; first | rwa [add_block] at this | exact this) GW238.out) | (rw [add_block]; exact Nat.ne_of_lt (Nat.lt_of_lt_of_le (by have := World.block_lt_of_cell? _ _ hw222_2; first | rwa [add_block] at this | exact this) GW238.out)) | (show (Addr.add _ _).block ≠ _; rw [add_block]; exact Nat.ne_of_lt (Nat.lt_of_lt_of_le (by have := World.block_lt_of_cell? _ _ hw222_2; first | rwa [add_block] at this | exact this) GW238.out)) | (dsimp only; exact Nat.ne_of_lt (Nat.lt_of_lt_of_le (by have := World.block_lt_of_cell? _ _ hw222_2; first | rwa [add_block] at this | exact this) GW238.out))) _).trans (hHeld.2.2.2.2.1)))), ((cell_far (p := ⟨gb238, _, none⟩) (by first | exact Nat.ne_of_lt (Nat.lt_of_lt_of_le (by have := World.block_lt_of_cell? _ _ hw222_3; first | rwa [add_block] at this | exact this) GW238.out) | (rw [add_block]; exact Nat.ne_of_lt (Nat.lt_of_lt_of_le (by have := World.block_lt_of_cell? _ _ hw222_3; first | rwa [add_block] at this | exact this) GW238.out)) | (show (Addr.add _ _).block ≠ _; rw [add_block]; exact Nat.ne_of_lt (Nat.lt_of_lt_of_le (by have := World.block_lt_of_cell? _ _ hw222_3; first | rwa [add_block] at this | exact this) GW238.out)) | (dsimp only; exact Nat.ne_of_lt (Nat.lt_of_lt_of_le (by have := World.block_lt_of_cell? _ _ hw222_3; first | rwa [add_block] at this | exact this) GW238.out))) _).trans (((cell_far (p := ⟨gb238, _, none⟩) (by first | exact Nat.ne_of_lt (Nat.lt_of_lt_of_le (by have := World.block_lt_of_cell? _ _ hw222_3; first | rwa [add_block] at this | exact this) GW238.out) | (rw [add_block]; exact Nat.ne_of_lt (Nat.lt_of_lt_of_le (by have := World.block_lt_of_cell? _ _ hw222_3; first | rwa [add_block] at this | exact this) GW238.out)) | (show (Addr.add _ _).block ≠ _; rw [add_block]; exact Nat.ne_of_lt (Nat.lt_of_lt_of_le (by have := World.block_lt_of_cell? _ _ hw222_3; first | rwa [add_block] at this | exact this) GW238.out)) | (dsimp only; exact Nat.ne_of_lt (Nat.lt_of_lt_of_le (by have := World.block_lt_of_cell? _ _ hw222_3; first | rwa [add_block] at this | exact this) GW238.out))) _).trans (hHeld.2.2.2.2.2.1)))), ((cell_far (p := ⟨gb238, _, none⟩) (by first | exact Nat.ne_of_lt (Nat.lt_of_lt_of_le (by have := World.block_lt_of_cell? _ _ hw222_4; first | rwa [add_block] at this | exact this) GW238.out) | (rw [add_block]; exact Nat.ne_of_lt (Nat.lt_of_lt_of_le (by have := World.block_lt_of_cell? _ _ hw222_4; first | rwa [add_block] at this | exact this) GW238.out)) | (show (Addr.add _ _).block ≠ _; rw [add_block]; exact Nat.ne_of_lt (Nat.lt_of_lt_of_le (by have := World.block_lt_of_cell? _ _ hw222_4; first | rwa [add_block] at this | exact this) GW238.out)) | (dsimp only; exact Nat.ne_of_lt (Nat.lt_of_lt_of_le (by have := World.block_lt_of_cell? _ _ hw222_4; first | rwa [add_block] at this | exact this) GW238.out))) _).trans (((cell_far (p := ⟨gb238, _, none⟩) (by first | exact Nat.ne_of_lt (Nat.lt_of_lt_of_le (by have := World.block_lt_of_cell? _ _ hw222_4; first | rwa [add_block] at this | exact this) GW238.out) | (rw [add_block]; exact Nat.ne_of_lt (Nat.lt_of_lt_of_le (by have := World.block_lt_of_cell? _ _ hw222_4; first | rwa [add_block] at this | exact this) GW238.out)) | (show (Addr.add _ _).block ≠ _; rw [add_block]; exact Nat.ne_of_lt (Nat.lt_of_lt_of_le (by have := World.block_lt_of_cell? _ _ hw222_4; first | rwa [add_block] at this | exact this) GW238.out)) | (dsimp only; exact Nat.ne_of_lt (Nat.lt_of_lt_of_le (by have := World.block_lt_of_cell? _ _ hw222_4; first | rwa [add_block] at this | exact this) GW238.out))) _).trans (hHeld.2.2.2.2.2.2.1)))), ((cell_far (p := ⟨gb238, _, none⟩) (by first | exact Nat.ne_of_lt (Nat.lt_of_lt_of_le (by have := World.block_lt_of_cell? _ _ hw222_5; first | rwa [add_block] at this | exact this) GW238.out) | (rw [add_block]; exact Nat.ne_of_lt (Nat.lt_of_lt_of_le (by have := World.block_lt_of_cell? _ _ hw222_5; first | rwa [add_block] at this | exact this) GW238.out)) | (show (Addr.add _ _).block ≠ _; rw [add_block]; exact Nat.ne_of_lt (Nat.lt_of_lt_of_le (by have := World.block_lt_of_cell? _ _ hw222_5; first | rwa [add_block] at this | exact this) GW238.out)) | (dsimp only; exact Nat.ne_of_lt (Nat.lt_of_lt_of_le (by have := World.block_lt_of_cell? _ _ hw222_5; first | rwa [add_block] at this | exact this) GW238.out))) _).trans (((cell_far (p := ⟨gb238, _, none⟩) (by first | exact Nat.ne_of_lt (Nat.lt_of_lt_of_le (by have := World.block_lt_of_cell? _ _ hw222_5; first | rwa [add_block] at this | exact this) GW238.out) | (rw [add_block]; exact Nat.ne_of_lt (Nat.lt_of_lt_of_le (by have := World.block_lt_of_cell? _ _ hw222_5; first | rwa [add_block] at this | exact this) GW238.out)) | (show (Addr.add _ _).block ≠ _; rw [add_block]; exact Nat.ne_of_lt (Nat.lt_of_lt_of_le (by have := World.block_lt_of_cell? _ _ hw222_5; first | rwa [add_block] at this | exact this) GW238.out)) | (dsimp only; exact Nat.ne_of_lt (Nat.lt_of_lt_of_le (by have := World.block_lt_of_cell? _ _ hw222_5; first | rwa [add_block] at this | exact this) GW238.out))) _).trans (hHeld.2.2.2.2.2.2.2.1)))), ((cell_far (p := ⟨gb238, _, none⟩) (by first | exact Nat.ne_of_lt (Nat.lt_of_lt_of_le (by have := World.block_lt_of_cell? _ _ hw222_6; first | rwa [add_block] at this | exact this) GW238.out) | (rw [add_block]; exact Nat.ne_of_lt (Nat.lt_of_lt_of_le (by have := World.block_lt_of_cell? _ _ hw222_6; first | rwa [add_block] at this | exact this) GW238.out)) | (show (Addr.add _ _).block ≠ _; rw [add_block]; exact Nat.ne_of_lt (Nat.lt_of_lt_of_le (by have := World.block_lt_of_cell? _ _ hw222_6; first | rwa [add_block] at this | exact this) GW238.out)) | (dsimp only; exact Nat.ne_of_lt (Nat.lt_of_lt_of_le (by have := World.block_lt_of_cell? _ _ hw222_6; first | rwa [add_block] at this | exact this) GW238.out))) _).trans (((cell_far (p := ⟨gb238, _, none⟩) (by first | exact Nat.ne_of_lt (Nat.lt_of_lt_of_le (by have := World.block_lt_of_cell? _ _ hw222_6; first | rwa [add_block] at this | exact this) GW238.out) | (rw [add_block]; exact Nat.ne_of_lt (Nat.lt_of_lt_of_le (by have := World.block_lt_of_cell? _ _ hw222_6; first | rwa [add_block] at this | exact this) GW238.out)) | (show (Addr.add _ _).block ≠ _; rw [add_block]; exact Nat.ne_of_lt (Nat.lt_of_lt_of_le (by have := World.block_lt_of_cell? _ _ hw222_6; first | rwa [add_block] at this | exact this) GW238.out)) | (dsimp only; exact Nat.ne_of_lt (Nat.lt_of_lt_of_le (by have := World.block_lt_of_cell? _ _ hw222_6; first | rwa [add_block] at this | exact this) GW238.out))) _).trans (hHeld.2.2.2.2.2.2.2.2))))⟩ (fun hHeld => ?_)
        clear hK K
        refine pure_ (i := 12) (N := some 7) (v := ?_) (a' := ?_) #[true, true, true, true, true, true, true, true, true, true, true, true, true] rfl rfl (any_of HT_.out (by kernel_rfl)) (fun _ _ _ h => h) (Or.inl ⟨by rfl, ?_⟩) ?_ ?_
        rotate_left; (intro w'; go_simp; with_reducible rfl); rotate_left; (simp only [Act.put, List.setIfInBounds_toArray, List.set_cons_zero, List.set_cons_succ, i64_w, i32_w]; rfl)
        refine done_ (done_of HT_.out (by kernel_rfl)) ?_
        go_upto_if 33 with (fail)
        go_cut [] (fun wc => ∃ (kq : Nat) (x222000_12 : List (S60)) (x222001_12 : Int) (u222000 : Value), Aside0 (w15_JudgeFits.j2 kq l0 t220 x5_1 x222000_12 x222001_12 = some r) ∧ Aside0 (kq ≤ kj5) ∧ Aside0 (Kd.R k60 60 wc w.heap.size (fun _ => True) u222000 x222000_12) ∧ Aside0 (Kd.R k60 60 wc w.heap.size (fun _ => True) (.slice Ao20 t233.length co20) t233) ∧ Aside0 (wc.heap[gb221]? = some (.cells #[u222000, .int .i64 x222001_12] 46 (0, 0))) ∧ Aside0 (wc.heap[gb238]? = some (.cells #[(.slice Ao20 t233.length co20), .int .i64 t236] 46 (0, 0))) ∧ Aside0 (Below w.heap.size w wc))
        case first =>
         have H := HC13.out
         clear HC13
         by_cases c23 : t237 = 0
         ·rw [if_pos c23] at H
          have c23b0 : (t237 == 0) = true := beq_iff_eq.mpr c23
          have c23b1 : (t237 != 0) = false := bne_eq_false_iff_eq.mpr c23
          clear c23
          (first | rw [c23b0] | (simp only [i64_w, i32_w]; rw [c23b0]) | skip)
          have H' := Aside0.mk H
          clear H
          have hnb24 := NB238_221.out
          have hnc24 := NB221_238.out
          have hcz25_0 : w19.cell? ⟨gb238, 0, none⟩ = some (.slice none 0 0) := (blk_cell BK238.out 0).trans rfl
          have hcz25_1 : w19.cell? ⟨gb238, 1, none⟩ = some (.int .i64 0) := (blk_cell BK238.out 1).trans rfl
          have hfz25_0 := blk_frozen BK238.out 0
          have hfz25_1 := blk_frozen BK238.out 1
          have hcz26_0 : w19.cell? ⟨gb221, 0, none⟩ = some (.slice Ao14 x222000_1.length co14) := (blk_cell BK221.out 0).trans rfl
          have hcz26_1 : w19.cell? ⟨gb221, 1, none⟩ = some (.int .i64 x222001_1) := (blk_cell BK221.out 1).trans rfl
          have hfz26_0 := blk_frozen BK221.out 0
          have hfz26_1 := blk_frozen BK221.out 1
          go_wp2
          go_meet
          case rel => exact ⟨_, (t233), (t236), (.slice Ao20 t233.length co20), H', ⟨by have := HK1.out; have := HJ5.out; first | omega | exact Nat.le_refl _⟩, ⟨by (with_reducible repeat (first | apply Kd.R_alloc | apply Kd.R_drewN | apply Kd.R_drew)); exact Kd.R_mono (Kd.R_far (p := ⟨gb221, 1, none⟩) (Kd.R_far (p := ⟨gb221, 0, none⟩) (Kd.R_far (p := ⟨gb238, 1, none⟩) (Kd.R_far (p := ⟨gb238, 0, none⟩) (Kd.R_types (Kd.R_types HO235.out BK238.out (by decide)) BK221.out (by decide)) (fun _ hk => hk.1.2) (.slice Ao20 t233.length co20)) (fun _ hk => hk.1.2) (.int .i64 t236)) (fun _ hk => hk.2) (.slice Ao20 t233.length co20)) (fun _ hk => hk.2) (.int .i64 t236)) (fun _ hk => trivial)⟩, ⟨by (with_reducible repeat (first | apply Kd.R_alloc | apply Kd.R_drewN | apply Kd.R_drew)); exact Kd.R_mono (Kd.R_far (p := ⟨gb221, 1, none⟩) (Kd.R_far (p := ⟨gb221, 0, none⟩) (Kd.R_far (p := ⟨gb238, 1, none⟩) (Kd.R_far (p := ⟨gb238, 0, none⟩) (Kd.R_types (Kd.R_types HO235.out BK238.out (by decide)) BK221.out (by decide)) (fun _ hk => hk.1.2) (.slice Ao20 t233.length co20)) (fun _ hk => hk.1.2) (.int .i64 t236)) (fun _ hk => hk.2) (.slice Ao20 t233.length co20)) (fun _ hk => hk.2) (.int .i64 t236)) (fun _ hk => trivial)⟩, ⟨by (with_reducible repeat (first | refine blk_drewN ?_ _ | refine blk_drew ?_ | refine blk_alloc ?_ _)); refine blk_put (cs := #[.slice Ao20 t233.length co20, .int .i64 x222001_1]) ?_ 1 _ rfl; (with_reducible repeat (first | refine blk_drewN ?_ _ | refine blk_drew ?_ | refine blk_alloc ?_ _)); refine blk_put (cs := #[.slice Ao14 x222000_1.length co14, .int .i64 x222001_1]) ?_ 0 _ rfl; (with_reducible repeat (first | refine blk_drewN ?_ _ | refine blk_drew ?_ | refine blk_alloc ?_ _)); refine blk_far ?_ NB221_238.out _; (with_reducible repeat (first | refine blk_drewN ?_ _ | refine blk_drew ?_ | refine blk_alloc ?_ _)); refine blk_far ?_ NB221_238.out _; (with_reducible repeat (first | refine blk_drewN ?_ _ | refine blk_drew ?_ | refine blk_alloc ?_ _)); exact BK221.out⟩, ⟨by (with_reducible repeat (first | refine blk_drewN ?_ _ | refine blk_drew ?_ | refine blk_alloc ?_ _)); refine blk_far ?_ NB238_221.out _; (with_reducible repeat (first | refine blk_drewN ?_ _ | refine blk_drew ?_ | refine blk_alloc ?_ _)); refine blk_far ?_ NB238_221.out _; (with_reducible repeat (first | refine blk_drewN ?_ _ | refine blk_drew ?_ | refine blk_alloc ?_ _)); refine blk_put (cs := #[.slice Ao20 t233.length co20, .int .i64 0]) ?_ 1 _ rfl; (with_reducible repeat (first | refine blk_drewN ?_ _ | refine blk_drew ?_ | refine blk_alloc ?_ _)); refine blk_put (cs := #[.slice none 0 0, .int .i64 0]) ?_ 0 _ rfl; (with_reducible repeat (first | refine blk_drewN ?_ _ | refine blk_drew ?_ | refine blk_alloc ?_ _)); exact BK238.out⟩, ⟨bl_⟩⟩
         ·rw [if_neg c23] at H
          have c23b0 : (t237 == 0) = false := beq_eq_false_iff_ne.mpr c23
          have c23b1 : (t237 != 0) = true := bne_iff_ne.mpr c23
          (first | rw [c23b0] | (simp only [i64_w, i32_w]; rw [c23b0]) | skip)
          by_cases c27 : (t233.length : Int) = 0
          ·rw [if_pos c27] at H
           have c27b0 : ((t233.length : Int) == 0) = true := beq_iff_eq.mpr c27
           have c27b1 : ((t233.length : Int) != 0) = false := bne_eq_false_iff_eq.mpr c27
           clear c27
           by_cases c28 : t236 = 0
           ·rw [if_pos c28] at H
            have c28b0 : (t236 == 0) = true := beq_iff_eq.mpr c28
            have c28b1 : (t236 != 0) = false := bne_eq_false_iff_eq.mpr c28
            clear c28
            have H' := Aside0.mk H
            clear H
            have hnb29 := NB238_221.out
            have hnc29 := NB221_238.out
            have hcz30_0 : w19.cell? ⟨gb238, 0, none⟩ = some (.slice none 0 0) := (blk_cell BK238.out 0).trans rfl
            have hcz30_1 : w19.cell? ⟨gb238, 1, none⟩ = some (.int .i64 0) := (blk_cell BK238.out 1).trans rfl
            have hfz30_0 := blk_frozen BK238.out 0
            have hfz30_1 := blk_frozen BK238.out 1
            go_wp2
            go_meet
            case rel => exact ⟨_, (x222000_1), (x222001_1), (.slice Ao14 x222000_1.length co14), H', ⟨by have := HK1.out; have := HJ5.out; first | omega | exact Nat.le_refl _⟩, ⟨by (with_reducible repeat (first | apply Kd.R_alloc | apply Kd.R_drewN | apply Kd.R_drew)); exact Kd.R_mono (Kd.R_far (p := ⟨gb238, 1, none⟩) (Kd.R_far (p := ⟨gb238, 0, none⟩) (Kd.R_types HO_222000.out BK238.out (by decide)) (fun _ hk => hk.2) (.slice Ao20 t233.length co20)) (fun _ hk => hk.2) (.int .i64 t236)) (fun _ _ => trivial)⟩, ⟨by (with_reducible repeat (first | apply Kd.R_alloc | apply Kd.R_drewN | apply Kd.R_drew)); exact Kd.R_mono (Kd.R_far (p := ⟨gb238, 1, none⟩) (Kd.R_far (p := ⟨gb238, 0, none⟩) (Kd.R_types HO235.out BK238.out (by decide)) (fun _ hk => hk.2) (.slice Ao20 t233.length co20)) (fun _ hk => hk.2) (.int .i64 t236)) (fun _ _ => trivial)⟩, ⟨by (with_reducible repeat (first | refine blk_drewN ?_ _ | refine blk_drew ?_ | refine blk_alloc ?_ _)); refine blk_far ?_ NB221_238.out _; (with_reducible repeat (first | refine blk_drewN ?_ _ | refine blk_drew ?_ | refine blk_alloc ?_ _)); refine blk_far ?_ NB221_238.out _; (with_reducible repeat (first | refine blk_drewN ?_ _ | refine blk_drew ?_ | refine blk_alloc ?_ _)); exact BK221.out⟩, ⟨by (with_reducible repeat (first | refine blk_drewN ?_ _ | refine blk_drew ?_ | refine blk_alloc ?_ _)); refine blk_put (cs := #[.slice Ao20 t233.length co20, .int .i64 0]) ?_ 1 _ rfl; (with_reducible repeat (first | refine blk_drewN ?_ _ | refine blk_drew ?_ | refine blk_alloc ?_ _)); refine blk_put (cs := #[.slice none 0 0, .int .i64 0]) ?_ 0 _ rfl; (with_reducible repeat (first | refine blk_drewN ?_ _ | refine blk_drew ?_ | refine blk_alloc ?_ _)); exact BK238.out⟩, ⟨bl_⟩⟩
           ·rw [if_neg c28] at H
            have c28b0 : (t236 == 0) = false := beq_eq_false_iff_ne.mpr c28
            have c28b1 : (t236 != 0) = true := bne_iff_ne.mpr c28
            exact absurd ((Option.some.inj H).trans HRT.out) (by decide)
          ·rw [if_neg c27] at H
           have c27b0 : ((t233.length : Int) == 0) = false := beq_eq_false_iff_ne.mpr c27
           have c27b1 : ((t233.length : Int) != 0) = true := bne_iff_ne.mpr c27
           have c27b2 : ¬ (t233 = []) := fun h_ => c27 (by rw [h_]; rfl)
           exact absurd ((Option.some.inj H).trans HRT.out) (by decide)
        case rest =>
         clear HC13
         try clear c1
         try clear c2
         try clear p2
         try clear q2
         try clear hx2
         try clear c3
         try clear c7
         try clear c7b0
         try clear c8
         try clear c9
         try clear c9b0
         try clear c10
         try clear c10b0
         try clear c21
         try clear c22
         try clear p22
         try clear q22
         try clear hx22
         try clear c23
         try clear c23b0
         try clear c23b1
         try clear c24
         try clear c27
         try clear c27b0
         try clear c27b1
         try clear c27b2
         try clear c28
         try clear c28b0
         try clear c28b1
         try clear c29
         try clear c31
         try clear c33
         try clear hcz25_0
         try clear hcz25_1
         try clear hcz26_0
         try clear hcz26_1
         try clear hcz30_0
         try clear hcz30_1
         try clear hcz32_0
         try clear hcz32_1
         try clear hcz34_0
         try clear hcz34_1
         try clear hcz5_0
         try clear hcz5_1
         try clear hfz25_0
         try clear hfz25_1
         try clear hfz26_0
         try clear hfz26_1
         try clear hfz30_0
         try clear hfz30_1
         try clear hfz32_0
         try clear hfz32_1
         try clear hfz34_0
         try clear hfz34_1
         try clear hfz5_0
         try clear hfz5_1
         try clear hx222_0
         try clear hx222_1
         try clear hx222_2
         try clear hx222_3
         try clear hx222_4
         try clear hx222_5
         try clear hx222_6
         try clear p2
         try clear p222
         try clear q222
         obtain ⟨kq, x222000_12, x222001_12, u222000, HA, HJ12, HO_222000, HO_239000, BK221, BK238, HB⟩ := hcut
         cases kq with
         | zero => exact absurd HA.out (by simp [w15_JudgeFits.j2])
         | succ kj12 =>
          have H := HA.out
          clear HA
          simp only [w15_JudgeFits.j2] at H
          have H' := Aside0.mk H
          clear H
          go_wp2
          go_loopg [8] kj12 (fun kq v8 w' => ∃ (x8_4 : Int), v8 = .int .i64 x8_4 ∧ Aside0 (w15_JudgeFits.l1 kq l0 t220 x5_1 x8_4 x222000_12 x222001_12 = some r) ∧ Aside0 (kq ≤ kj12) ∧ Aside0 (Kd.R k60 60 w' w.heap.size (fun _ => True) u222000 x222000_12) ∧ Aside0 (Kd.R k60 60 w' w.heap.size (fun _ => True) (.slice Ao20 t233.length co20) t233) ∧ Aside0 (w'.heap[gb221]? = some (.cells #[u222000, .int .i64 x222001_12] 46 (0, 0))) ∧ Aside0 (w'.heap[gb238]? = some (.cells #[(.slice Ao20 t233.length co20), .int .i64 t236] 46 (0, 0))) ∧ Aside0 (Below w.heap.size w w'))
          case atStart => exact ⟨(0), (by first | rfl | (simp; done) | (simp [*]; done)), H', ⟨Nat.le_refl _⟩, ⟨by (with_reducible repeat (first | apply Kd.R_alloc | apply Kd.R_drewN | apply Kd.R_drew)); exact HO_222000.out⟩, ⟨by (with_reducible repeat (first | apply Kd.R_alloc | apply Kd.R_drewN | apply Kd.R_drew)); exact HO_239000.out⟩, ⟨bk_⟩, ⟨bk_⟩, ⟨bl_⟩⟩
          case round =>
           clear H'
           try clear c1
           try clear c2
           try clear p2
           try clear q2
           try clear hx2
           try clear c3
           try clear c7
           try clear c7b0
           try clear c8
           try clear c9
           try clear c9b0
           try clear c10
           try clear c10b0
           try clear c21
           try clear c22
           try clear p22
           try clear q22
           try clear hx22
           try clear c23
           try clear c23b0
           try clear c23b1
           try clear c24
           try clear c27
           try clear c27b0
           try clear c27b1
           try clear c27b2
           try clear c28
           try clear c28b0
           try clear c28b1
           try clear c29
           try clear c31
           try clear c33
           try clear hcz25_0
           try clear hcz25_1
           try clear hcz26_0
           try clear hcz26_1
           try clear hcz30_0
           try clear hcz30_1
           try clear hcz32_0
           try clear hcz32_1
           try clear hcz34_0
           try clear hcz34_1
           try clear hcz5_0
           try clear hcz5_1
           try clear hfz25_0
           try clear hfz25_1
           try clear hfz26_0
           try clear hfz26_1
           try clear hfz30_0
           try clear hfz30_1
           try clear hfz32_0
           try clear hfz32_1
           try clear hfz34_0
           try clear hfz34_1
           try clear hfz5_0
           try clear hfz5_1
           try clear hx222_0
           try clear hx222_1
           try clear hx222_2
           try clear hx222_3
           try clear hx222_4
           try clear hx222_5
           try clear hx222_6
           try clear p2
           try clear p22
           try clear p222
           try clear q2
           try clear q22
           try clear q222
           obtain ⟨x8_4, rfl, HA, HK4, HO_222000, HO_239000, BK221, BK238, HB⟩ := hrel
           cases gk with
           | zero => exact absurd HA.out (by simp [w15_JudgeFits.l1])
           | succ k4 =>
            have H := HA.out
            clear HA
            simp only [w15_JudgeFits.l1] at H
            by_cases c35 : x8_4 < 4
            ·rw [if_pos c35] at H
             have c35b0 : decide (x8_4 < 4) = true := decide_eq_true c35
             clear c35
             replace H := Option.bind_eq_some_iff.mp H
             obtain ⟨t240, A360, H⟩ := H
             replace H : ((r12_Test.f k4 t240).bind fun t243 => (if t243 = 0 then (w15_JudgeFits.l1 k4 l0 t220 x5_1 (wrap64 (x8_4 + 1)) x222000_12 x222001_12) else (some false))) = some r := H
             have A36 := Aside0.mk A360
             clear A360
             replace H := Option.bind_eq_some_iff.mp H
             obtain ⟨t243, A370, H⟩ := H
             replace H : (if t243 = 0 then (w15_JudgeFits.l1 k4 l0 t220 x5_1 (wrap64 (x8_4 + 1)) x222000_12 x222001_12) else (some false)) = some r := H
             have A37 := Aside0.mk A370
             clear A370
             by_cases c38 : t243 = 0
             ·rw [if_pos c38] at H
              have c38b0 : (t243 == 0) = true := beq_iff_eq.mpr c38
              have c38b1 : (t243 != 0) = false := bne_eq_false_iff_eq.mpr c38
              clear c38
              have H' := Aside0.mk H
              clear H
              have hnb39 := NB221_238.out
              have hnc39 := NB238_221.out
              have hcz40_0 : wr.cell? ⟨gb221, 0, none⟩ = some (u222000) := (blk_cell BK221.out 0).trans rfl
              have hcz40_1 : wr.cell? ⟨gb221, 1, none⟩ = some (.int .i64 x222001_12) := (blk_cell BK221.out 1).trans rfl
              have hfz40_0 := blk_frozen BK221.out 0
              have hfz40_1 := blk_frozen BK221.out 1
              obtain ⟨Ao41, co41, eo41⟩ := Kd.R_slice HO_222000.out
              subst eo41
              go_wp2_with (first | ((with_reducible refine gate_callee (f := 23) rfl ?_); refine goesL_ (some 50) rfl rfl Try.func23 (by kernel_rfl) rfl #[.agg #[.slice Ao41 x222000_12.length co41, .int .i64 x222001_12], .int .i64 x8_4] rfl (by (try simp only [List.map_toArray, List.map_cons, List.map_nil]); first | done | rfl | (simp only [List.length_drop, List.length_take]; rfl)) ?_; (with_reducible refine (r14_In.calls k4 _ _ x222000_12 x222001_12 x8_4 t240 _ ?side1 ?side2 A36.out).mono ?_); (case side1 => repeat (first | exact (Kd.R_reads' HO_222000.out).2.2 | (with_reducible refine Kd.C_alloc ?_ _) | (with_reducible refine Kd.C_drewN ?_ _) | (with_reducible refine Kd.C_drew ?_))); (case side2 => exact (Kd.R_reads' HO_222000.out).2.1); rintro e w42 ⟨v241, rfl, ho0, hb⟩; refine ⟨_, rfl, ?_⟩; have n0_ := Aside0.mk (Kd.R_below (by (with_reducible repeat (first | apply Kd.R_alloc | apply Kd.R_drewN | apply Kd.R_drew)); exact HO_222000.out) hb); have n1_ := Aside0.mk (Kd.R_below (by (with_reducible repeat (first | apply Kd.R_alloc | apply Kd.R_drewN | apply Kd.R_drew)); exact HO_239000.out) hb); have n2_ := Aside0.mk (Kd.R_lower ho0 (below_size bl_)); have n3_ := Aside0.mk (blk_below (g := gb221) (o := .cells #[.slice Ao41 x222000_12.length co41, .int .i64 x222001_12] 46 (0, 0)) bk_ hb); have n4_ := Aside0.mk (blk_below (g := gb238) (o := .cells #[.slice Ao20 t233.length co20, .int .i64 t236] 46 (0, 0)) bk_ hb); have n5_ := Aside0.mk (below_step bl_ hb); clear HO_222000; clear HO_239000; clear BK221; clear BK238; clear HB; have HO_222000 := n0_; have HO_239000 := n1_; have HO242 := n2_; have BK221 := n3_; have BK238 := n4_; have HB := n5_; clear n0_ n1_ n2_ n3_ n4_ n5_; (try clear hb); (try clear hb2); (try clear hk); (try clear hi); (try clear ho0); obtain ⟨Ao43, co43, eo43⟩ := Kd.R_slice HO242.out; subst eo43) | ((with_reducible refine gate_callee (f := 13) rfl ?_); refine goesL_ (some 51) rfl rfl Try.func13 (by kernel_rfl) rfl #[.slice Ao43 t240.length co43] rfl (by (try simp only [List.map_toArray, List.map_cons, List.map_nil]); first | done | rfl | (simp only [List.length_drop, List.length_take]; rfl)) ?_; (with_reducible refine (r12_Test.calls k4 _ _ t240 t243 _ ?side1 ?side2 A37.out).mono ?_); (case side1 => repeat (first | exact (Kd.R_reads' HO242.out).2.2 | (with_reducible refine Kd.C_alloc ?_ _) | (with_reducible refine Kd.C_drewN ?_ _) | (with_reducible refine Kd.C_drew ?_))); (case side2 => exact (Kd.R_reads' HO242.out).2.1); rintro e w44 ⟨rfl, hb⟩; refine ⟨_, rfl, ?_⟩; have n0_ := Aside0.mk (Kd.R_below (by (with_reducible repeat (first | apply Kd.R_alloc | apply Kd.R_drewN | apply Kd.R_drew)); exact HO_222000.out) hb); have n1_ := Aside0.mk (Kd.R_below (by (with_reducible repeat (first | apply Kd.R_alloc | apply Kd.R_drewN | apply Kd.R_drew)); exact HO_239000.out) hb); have n2_ := Aside0.mk (Kd.R_below (by (with_reducible repeat (first | apply Kd.R_alloc | apply Kd.R_drewN | apply Kd.R_drew)); exact HO242.out) hb); have n3_ := Aside0.mk (blk_below (g := gb221) (o := .cells #[.slice Ao41 x222000_12.length co41, .int .i64 x222001_12] 46 (0, 0)) bk_ hb); have n4_ := Aside0.mk (blk_below (g := gb238) (o := .cells #[.slice Ao20 t233.length co20, .int .i64 t236] 46 (0, 0)) bk_ hb); have n5_ := Aside0.mk (below_step bl_ hb); clear HO_222000; clear HO_239000; clear HO242; clear BK221; clear BK238; clear HB; have HO_222000 := n0_; have HO_239000 := n1_; have HO242 := n2_; have BK221 := n3_; have BK238 := n4_; have HB := n5_; clear n0_ n1_ n2_ n3_ n4_ n5_; (try clear hb); (try clear hb2); (try clear hk); (try clear hi)))
              go_roundg k4
              case measure => have := HK1.out; have := HJ5.out; have := HJ12.out; have := HK4.out; omega
              case rel => exact ⟨(wrap64 (x8_4 + 1)), (by first | rfl | (simp; done) | (simp [*]; done)), H', ⟨by have := HK1.out; have := HJ5.out; have := HJ12.out; have := HK4.out; omega⟩, ⟨by (with_reducible repeat (first | apply Kd.R_alloc | apply Kd.R_drewN | apply Kd.R_drew)); exact HO_222000.out⟩, ⟨by (with_reducible repeat (first | apply Kd.R_alloc | apply Kd.R_drewN | apply Kd.R_drew)); exact HO_239000.out⟩, ⟨bk_⟩, ⟨bk_⟩, ⟨bl_⟩⟩
             ·rw [if_neg c38] at H
              have c38b0 : (t243 == 0) = false := beq_eq_false_iff_ne.mpr c38
              have c38b1 : (t243 != 0) = true := bne_iff_ne.mpr c38
              exact absurd ((Option.some.inj H).trans HRT.out) (by decide)
            ·rw [if_neg c35] at H
             have c35b0 : decide (x8_4 < 4) = false := decide_eq_false c35
             clear c35
             replace H := Option.bind_eq_some_iff.mp H
             obtain ⟨t239, A510, H⟩ := H
             replace H : (if t239 = true then (w15_JudgeFits.l0 k4 l0 t220 (wrap64 (x5_1 + 1)) x222000_12 x222001_12) else (some false)) = some r := H
             have A51 := Aside0.mk A510
             clear A510
             by_cases c52 : t239 = true
             ·subst c52
              have H1 : (w15_JudgeFits.l0 k4 l0 t220 (wrap64 (x5_1 + 1)) x222000_12 x222001_12) = some r := by rw [if_pos rfl] at H; exact H
              clear H
              have H := H1
              clear H1
              have H' := Aside0.mk H
              clear H
              have hnb53 := NB221_238.out
              have hnc53 := NB238_221.out
              have hcz54_0 : wr.cell? ⟨gb221, 0, none⟩ = some (u222000) := (blk_cell BK221.out 0).trans rfl
              have hcz54_1 : wr.cell? ⟨gb221, 1, none⟩ = some (.int .i64 x222001_12) := (blk_cell BK221.out 1).trans rfl
              have hfz54_0 := blk_frozen BK221.out 0
              have hfz54_1 := blk_frozen BK221.out 1
              obtain ⟨Ao55, co55, eo55⟩ := Kd.R_slice HO_222000.out
              subst eo55
              go_wp2_with (first | ((with_reducible refine gate_callee (f := 24) rfl ?_); refine goesL_ (some 54) rfl rfl Try.func24 (by kernel_rfl) rfl #[.agg #[.slice Ao55 x222000_12.length co55, .int .i64 x222001_12]] rfl (by (try simp only [List.map_toArray, List.map_cons, List.map_nil]); first | done | rfl | (simp only [List.length_drop, List.length_take]; rfl)) ?_; (with_reducible refine (r14_Check.calls _ _ x222000_12 x222001_12 true _ ?side1 ?side2 A51.out).mono ?_); (case side1 => repeat (first | exact (Kd.R_reads' HO_222000.out).2.2 | (with_reducible refine Kd.C_alloc ?_ _) | (with_reducible refine Kd.C_drewN ?_ _) | (with_reducible refine Kd.C_drew ?_))); (case side2 => exact (Kd.R_reads' HO_222000.out).2.1); rintro e w56 ⟨rfl, hb⟩; refine ⟨_, rfl, ?_⟩; have n0_ := Aside0.mk (Kd.R_below (by (with_reducible repeat (first | apply Kd.R_alloc | apply Kd.R_drewN | apply Kd.R_drew)); exact HO_222000.out) hb); have n1_ := Aside0.mk (Kd.R_below (by (with_reducible repeat (first | apply Kd.R_alloc | apply Kd.R_drewN | apply Kd.R_drew)); exact HO_239000.out) hb); have n2_ := Aside0.mk (blk_below (g := gb221) (o := .cells #[.slice Ao55 x222000_12.length co55, .int .i64 x222001_12] 46 (0, 0)) bk_ hb); have n3_ := Aside0.mk (blk_below (g := gb238) (o := .cells #[.slice Ao20 t233.length co20, .int .i64 t236] 46 (0, 0)) bk_ hb); have n4_ := Aside0.mk (below_step bl_ hb); clear HO_222000; clear HO_239000; clear BK221; clear BK238; clear HB; have HO_222000 := n0_; have HO_239000 := n1_; have BK221 := n2_; have BK238 := n3_; have HB := n4_; clear n0_ n1_ n2_ n3_ n4_; (try clear hb); (try clear hb2); (try clear hk); (try clear hi)))
              go_roundg k4
              case measure => have := HK1.out; have := HJ5.out; have := HJ12.out; have := HK4.out; omega
              case rel => exact ⟨(wrap64 (x5_1 + 1)), (x222000_12), (x222001_12), (.slice Ao55 x222000_12.length co55), (by first | rfl | (simp; done) | (simp [*]; done)), H', ⟨by have := HK1.out; have := HJ5.out; have := HJ12.out; have := HK4.out; omega⟩, ⟨by (with_reducible repeat (first | apply Kd.R_alloc | apply Kd.R_drewN | apply Kd.R_drew)); exact Kd.R_mono HO_222000.out (fun _ hk => trivial)⟩, ⟨bk_⟩, ⟨bl_⟩⟩
             ·replace c52 := Bool.eq_false_iff.mpr c52
              subst c52
              have H1 : (some false) = some r := by rw [if_neg (show ¬ (false = true) by decide)] at H; exact H
              clear H
              have H := H1
              clear H1
              exact absurd ((Option.some.inj H).trans HRT.out) (by decide)
       ·rw [if_neg c10] at H
        exact absurd H (by simp)
      ·rw [if_neg c9] at H
       exact absurd H (by simp)
     ·replace c8 := Bool.eq_false_iff.mpr c8
      subst c8
      have H1 : (some t220) = some r := by rw [if_neg (show ¬ (false = true) by decide)] at H; exact H
      clear H
      have H := H1
      clear H1
      obtain rfl := Option.some.inj H
      go_wp2
      go_ret
      exact ⟨by first | rfl | (simp [errW_none, errW_some] <;> rfl) | (simp [*, errW_none, errW_some] <;> rfl), bl_⟩

end Go.Proofs.Ythkagoomlmgcdaa.PJudgeFits
