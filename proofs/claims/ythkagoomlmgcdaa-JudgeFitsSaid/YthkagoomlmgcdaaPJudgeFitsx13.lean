-- Made by px.py (a program of this session, over the kit's printer) out of the translation. Not trusted: Lean checks it.
import Derived.Test.YthkagoomlmgcdaaPJudgeFitsx0
import Derived.Test.YthkagoomlmgcdaaPJudgeFitsx1
import Derived.Test.YthkagoomlmgcdaaPJudgeFitsx2
import Derived.Test.YthkagoomlmgcdaaPJudgeFitsx3
import Derived.Test.YthkagoomlmgcdaaPJudgeFitsx7
namespace Go.Proofs.Ythkagoomlmgcdaa.PJudgeFits
open Go.RowKit Go.Proofs.YthkagoomlmgcdaaW.PrintWords Go.Proofs.YthkagoomlmgcdaaW.PrintLast Go.Proofs.YthkagoomlmgcdaaW.PrintMore
attribute [local go_sem] max2_int min2_int max_two min_two max_three min_three max_four min_four   -- for this text's walks alone
set_option linter.unusedVariables false
set_option linter.unusedSimpArgs false

/-! ### r14_Check: function 24 (by hand) -/
theorem rcheck_is (s : S31) : r09_Check.f s.f0 s.f1 s.f2 s.f3 s.f4 = some (taskB s) := by
 have e : taskB s = true ↔ (tk s).ok := taskB_ok s
 unfold Hm.Tk.ok tk at e
 simp only at e
 unfold r09_Check.f
 by_cases h : taskB s = true
 ·obtain ⟨h1, h2, h3, h4, h5, h6, h7, h8⟩ := e.1 h
  rw [h, if_pos (by omega), if_pos (by omega), if_pos (by omega), if_pos (by omega), if_pos (by omega), if_pos (by omega), if_pos (by omega), decide_eq_true h8]
 ·have hf : taskB s = false := Bool.eq_false_iff.2 h
  rw [hf]
  repeat' split
  all_goals first | rfl | skip
  all_goals (congr 1; rw [decide_eq_false_iff_not]; intro h8; exact h (e.2 ⟨by omega, by omega, by omega, by omega, by omega, by omega, by omega, h8⟩))
-- r09_Check param_Row
def r14_Check.f (l0_0 : List S60) (a0_1 : Int) : Option Bool := some (tabB l0_0 a0_1)
set_option maxHeartbeats 16000000 in
set_option maxRecDepth 100000 in
theorem r14_Check.calls (A0_0 : Option Addr) (c0_0 : Nat) (l0_0 : List S60) (a0_1 : Int) (r : Bool) (w : World) (hr0_0 : Kd.C k60 w A0_0 l0_0.length l0_0) (hc0_0 : l0_0.length ≤ c0_0) (h : r14_Check.f l0_0 a0_1 = some r) :
  Calls Try.prog 24 #[.agg #[.slice A0_0 l0_0.length c0_0, .int .i64 a0_1]] w fun e w' => e = .returned (.bool r) ∧ Below w.heap.size w w' := by
 have hu52 := Try.underlying46
 have hu54 := Try.underlying60
 have hu28 := Try.underlying31
 have hmax : l0_0.length ≤ 9223372036854775807 := Kd.C_max hr0_0
 have HR0 := Aside0.mk hr0_0
 have HC0 := Aside0.mk hc0_0
 clear hr0_0 hc0_0
 obtain rfl := Option.some.inj h
 clear h
 have HB := Aside0.mk (Below.refl w.heap.size w)
 go_enter Try.func24, Try.ntmps24
 go_wp2_with ((with_reducible refine gate_dst (N := 1) rfl ?_); refine box_event ?hg (N := 1) ?hd (cs := #[.slice A0_0 l0_0.length c0_0, .int .i64 a0_1]) (t := 46) ?hr ?_; (case hd => rfl); (case hg => rfl); (case hr => first | (go_simp; done) | (go_simp; rfl)); intro gt hg w2 hbox hb; have n0_ := Aside0.mk (below_step HB.out hb); have BK := Aside0.mk hbox; have GE := Aside0.mk (show w.heap.size ≤ gt by rw [hg]; exact Nat.le_refl _); clear HB; have HB := n0_; clear n0_; clear hb hbox hg; have hcz0 : w2.cell? ⟨gt, 0, none⟩ = some (.slice A0_0 l0_0.length c0_0) := (blk_cell BK.out 0).trans rfl; have hcz1 : w2.cell? ⟨gt, 1, none⟩ = some (.int .i64 a0_1) := (blk_cell BK.out 1).trans rfl)
 go_loopw [3] (fun v8 wr => ∃ k : Nat, k ≤ l0_0.length ∧ v8 = .int .i64 k ∧ Aside0 (tabGo none l0_0 = tabGo (prevI l0_0 k) (l0_0.drop k)) ∧ Aside0 (wr.heap[gt]? = some (.cells #[.slice A0_0 l0_0.length c0_0, .int .i64 a0_1] 46 (0, 0))) ∧ Aside0 (Below w.heap.size w wr)) (fun v8 _ => l0_0.length - (intOf v8).toNat)
 case atStart => exact ⟨0, Nat.zero_le _, rfl, ⟨rfl⟩, BK, HB⟩
 case round =>
  try clear hcz0
  try clear hcz1
  clear BK HB
  obtain ⟨k, hk, rfl, HG, BK, HB⟩ := hrel
  have hcz0 : wr.cell? ⟨gt, 0, none⟩ = some (.slice A0_0 l0_0.length c0_0) := (blk_cell BK.out 0).trans rfl
  have hcz1 : wr.cell? ⟨gt, 1, none⟩ = some (.int .i64 a0_1) := (blk_cell BK.out 1).trans rfl
  by_cases hlt : k < l0_0.length
  ·have p0 : (0 : Int) ≤ (k : Int) := by omega
   have q0 : (k : Int) < (l0_0.length : Int) := by omega
   obtain ⟨ad, e0, hx0, hx1, hx2, hx3, hx4, hx5⟩ := at_T60 HR0.out k p0 q0
   cases e0
   replace hx0 := (HB.out.cell (World.block_lt_of_cell? w _ hx0)).trans hx0
   replace hx1 := (HB.out.cell (World.block_lt_of_cell? w _ hx1)).trans hx1
   replace hx2 := (HB.out.cell (World.block_lt_of_cell? w _ hx2)).trans hx2
   replace hx3 := (HB.out.cell (World.block_lt_of_cell? w _ hx3)).trans hx3
   replace hx4 := (HB.out.cell (World.block_lt_of_cell? w _ hx4)).trans hx4
   replace hx5 := (HB.out.cell (World.block_lt_of_cell? w _ hx5)).trans hx5
   simp only [Int.toNat_natCast] at hx0 hx1 hx2 hx3 hx4 hx5
   have HS := Aside0.mk (tabGo_step hlt)
   obtain ⟨x, hx⟩ : ∃ x, rd_T60 l0_0 (k : Int) = x := ⟨_, rfl⟩
   rw [hx] at hx0 hx1 hx2 hx3 hx4 hx5 HS
   have HX := Aside0.mk hx
   clear hx
   have HCK := Aside0.mk (rcheck_is x.f0)
   go_upto_region 6 with (first | ((with_reducible refine gate_dst (N := 4) rfl ?_); refine box_event ?hg (N := 4) ?hd (cs := #[.int .i64 0, .int .i64 0, .int .i64 0, .int .i64 0, .int .i64 0, .bool false]) (t := 60) ?hr ?_; (case hd => rfl); (case hg => rfl); (case hr => first | (go_simp; done) | (go_simp; rfl)); intro g4 hg w8 hbox hb; have n0_ := Aside0.mk (blk_below BK.out hb); have n1_ := Aside0.mk (below_step HB.out hb); have B4 := Aside0.mk hbox; have G4 := Aside0.mk (show w.heap.size ≤ g4 by rw [hg]; exact below_size HB.out); have N4 := Aside0.mk (show gt ≠ g4 by rw [hg]; exact Nat.ne_of_lt (blk_lt BK.out)); clear BK HB hcz0 hcz1; have BK := n0_; have HB := n1_; clear n0_ n1_; clear hb hbox hg; have hnb := N4.out; have hnc := Ne.symm N4.out; have z0 : w8.cell? ⟨g4, 0, none⟩ = some (.int .i64 0) := (blk_cell B4.out 0).trans rfl; have z1 : w8.cell? ⟨g4, 1, none⟩ = some (.int .i64 0) := (blk_cell B4.out 1).trans rfl; have z2 : w8.cell? ⟨g4, 2, none⟩ = some (.int .i64 0) := (blk_cell B4.out 2).trans rfl; have z3 : w8.cell? ⟨g4, 3, none⟩ = some (.int .i64 0) := (blk_cell B4.out 3).trans rfl; have z4 : w8.cell? ⟨g4, 4, none⟩ = some (.int .i64 0) := (blk_cell B4.out 4).trans rfl; have z5 : w8.cell? ⟨g4, 5, none⟩ = some (.bool false) := (blk_cell B4.out 5).trans rfl; have y0 := blk_frozen B4.out 0; have y1 := blk_frozen B4.out 1; have y2 := blk_frozen B4.out 2; have y3 := blk_frozen B4.out 3; have y4 := blk_frozen B4.out 4; have y5 := blk_frozen B4.out 5) | (go_at_call 40; refine (r09_Check.calls x.f0.f0 x.f0.f1 x.f0.f2 x.f0.f3 x.f0.f4 _ _ HCK.out).mono ?_; rintro e w9 ⟨rfl, hb9⟩; have n0_ := Aside0.mk (blk_below (put6_far BK.out N4.out x) hb9); have n1_ := Aside0.mk (blk_below (put6_at B4.out x) hb9); have n2_ := Aside0.mk (below_step (put6_below HB.out G4.out x) hb9); clear hb9 BK B4 HB hx0 hx1 hx2 hx3 hx4 hx5 z0 z1 z2 z3 z4 z5 y0 y1 y2 y3 y4 y5 hnb hnc; have BK := n0_; have B4 := n1_; have HB := n2_; clear n0_ n1_ n2_))
   (try simp only [Act.put, List.setIfInBounds_toArray, List.set_cons_zero, List.set_cons_succ])
   have t0 : w9.cell? ⟨gt, 0, none⟩ = some (.slice (some ad) l0_0.length c0_0) := (blk_cell BK.out 0).trans rfl
   have s0 : w9.cell? ⟨g4, 0, none⟩ = some (.int .i64 x.f0.f0) := (blk_cell B4.out 0).trans rfl
   have s1 : w9.cell? ⟨g4, 1, none⟩ = some (.int .i64 x.f0.f1) := (blk_cell B4.out 1).trans rfl
   have s2 : w9.cell? ⟨g4, 2, none⟩ = some (.int .i64 x.f0.f2) := (blk_cell B4.out 2).trans rfl
   have s3 : w9.cell? ⟨g4, 3, none⟩ = some (.int .i64 x.f0.f3) := (blk_cell B4.out 3).trans rfl
   have s4 : w9.cell? ⟨g4, 4, none⟩ = some (.int .i64 x.f0.f4) := (blk_cell B4.out 4).trans rfl
   have s5 : w9.cell? ⟨g4, 5, none⟩ = some (.bool x.f1) := (blk_cell B4.out 5).trans rfl
   go_cut [5, 53] (fun v5 v47 wc => ∃ b : Bool, v47 = .bool b ∧ Aside0 (rowOk (prevI l0_0 k) x = !b) ∧ Aside0 (wc.heap[gt]? = some (.cells #[.slice (some ad) l0_0.length c0_0, .int .i64 a0_1] 46 (0, 0))) ∧ Aside0 (Below w.heap.size w wc))
   case first =>
    obtain ⟨sv, hsv⟩ : ∃ sv, x.f1 = sv := ⟨_, rfl⟩
    rw [hsv] at s5 B4
    have HSV := Aside0.mk hsv
    clear hsv
    cases hb1 : taskB x.f0 with
    | false =>
     have HT1 := Aside0.mk hb1
     clear hb1
     go_quiet (fail)
     try go_wp2
     go_meet
     case rel => exact ⟨_, by first | rfl | (simp; done), ⟨by simp [rowOk, HT1.out]⟩, ⟨blk_drewN BK.out _⟩, ⟨pw_below_drewN HB.out _⟩⟩
    | true =>
     have HT1 := Aside0.mk hb1
     clear hb1
     cases sv with
     | true =>
      by_cases hD : x.f0.f2 = x.f0.f3
      ·have hd1 : (x.f0.f2 != x.f0.f3) = false := bne_eq_false_iff_eq.mpr hD
       have hd0 : (x.f0.f2 == x.f0.f3) = true := beq_iff_eq.mpr hD
       have HD := Aside0.mk hD
       clear hD
       cases k with
       | zero =>
        have hk0 : decide ((0 : Int) < ((0 : Nat) : Int)) = false := rfl
        go_quiet (fail)
        try go_wp2
        go_meet
        case rel => exact ⟨_, by first | rfl | (simp; done), ⟨by simp [rowOk, prevI, HT1.out, HSV.out, HD.out]⟩, ⟨blk_drewN BK.out _⟩, ⟨pw_below_drewN HB.out _⟩⟩
       | succ j =>
        have hj0 : (0 : Int) ≤ (j : Int) := by omega
        have hj1 : (j : Int) < (l0_0.length : Int) := by omega
        have hjw : wrap64 (j : Int) = (j : Int) := by unfold wrap64; omega
        have hk0 : decide ((0 : Int) < ((j + 1 : Nat) : Int)) = true := decide_eq_true (by omega)
        obtain ⟨ad_, e0, hy0, hy1, hy2, hy3, hy4, hy5⟩ := at_T60 HR0.out j hj0 hj1
        obtain rfl : ad = ad_ := (by injection e0)
        simp only [Int.toNat_natCast] at hy0
        clear hy1 hy2 hy3 hy4 hy5
        have c0 := (HB.out.cell (World.block_lt_of_cell? w _ hy0)).trans hy0
        obtain ⟨y, hy⟩ : ∃ y, rd_T60 l0_0 (j : Int) = y := ⟨_, rfl⟩
        rw [hy] at hy0 c0
        have HY := Aside0.mk hy
        clear hy
        have hjt : (j : Int).toNat = j := Int.toNat_natCast j
        go_quiet (fail)
        try go_wp2
        go_meet
        case rel => exact ⟨_, by first | rfl | (simp; done), ⟨lastD HT1.out HSV.out HY.out hd0⟩, ⟨blk_drewN BK.out _⟩, ⟨pw_below_drewN HB.out _⟩⟩
      ·have hd1 : (x.f0.f2 != x.f0.f3) = true := bne_iff_ne.mpr hD
       have hd0 : (x.f0.f2 == x.f0.f3) = false := beq_eq_false_iff_ne.mpr hD
       have HD := Aside0.mk hD
       clear hD
       go_quiet (fail)
       try go_wp2
       go_meet
       case rel => exact ⟨_, by first | rfl | (simp; done), ⟨by simp [rowOk, HT1.out, HSV.out, HD.out]⟩, ⟨blk_drewN BK.out _⟩, ⟨pw_below_drewN HB.out _⟩⟩
     | false =>
      cases k with
      | zero =>
       have hk0 : decide ((0 : Int) < ((0 : Nat) : Int)) = false := rfl
       go_quiet (fail)
       try go_wp2
       go_meet
       case rel => exact ⟨_, by first | rfl | (simp; done), ⟨by simp [rowOk, prevI, HT1.out, HSV.out]⟩, ⟨blk_drewN BK.out _⟩, ⟨pw_below_drewN HB.out _⟩⟩
      | succ j =>
       have hj0 : (0 : Int) ≤ (j : Int) := by omega
       have hj1 : (j : Int) < (l0_0.length : Int) := by omega
       have hjw : wrap64 (j : Int) = (j : Int) := by unfold wrap64; omega
       have hk0 : decide ((0 : Int) < ((j + 1 : Nat) : Int)) = true := decide_eq_true (by omega)
       obtain ⟨ad_, e0, hy0, hy1, hy2, hy3, hy4, hy5⟩ := at_T60 HR0.out j hj0 hj1
       obtain rfl : ad = ad_ := (by injection e0)
       simp only [Int.toNat_natCast] at hy0
       clear hy1 hy2 hy3 hy4 hy5
       have c0 := (HB.out.cell (World.block_lt_of_cell? w _ hy0)).trans hy0
       obtain ⟨y, hy⟩ : ∃ y, rd_T60 l0_0 (j : Int) = y := ⟨_, rfl⟩
       rw [hy] at hy0 c0
       have HY := Aside0.mk hy
       clear hy
       have hjt : (j : Int).toNat = j := Int.toNat_natCast j
       go_quiet (fail)
       try go_wp2
       go_meet
       case rel => exact ⟨_, by first | rfl | (simp; done), ⟨lastF HT1.out HSV.out HY.out⟩, ⟨blk_drewN BK.out _⟩, ⟨pw_below_drewN HB.out _⟩⟩
   case rest =>
    clear HCK t0 s0 s1 s2 s3 s4 s5 BK HB B4
    obtain ⟨b, rfl, HOK, BK, HB⟩ := hcut
    cases b with
    | true =>
     go_wp2
     go_ret
     exact ⟨by unfold tabB; rw [HG.out, HS.out, HOK.out]; rfl, HB.out⟩
    | false =>
     go_wp2
     go_roundw
     case rel => exact ⟨k + 1, by omega, by go_num, ⟨by rw [HG.out, HS.out, HOK.out]; rfl⟩, BK, HB⟩
     case measure => simp [intOf]; omega
  ·have hkl : k = l0_0.length := by omega
   have HGG : Aside0 (tabGo none l0_0 = true) := ⟨by rw [HG.out, hkl]; exact tabGo_end l0_0⟩
   clear hkl HG
   by_cases h16 : (l0_0.length : Int) ≤ 16
   ·by_cases h0 : a0_1 ≥ 0
    ·go_wp2
     go_ret
     exact ⟨by unfold tabB; rw [HGG.out, decide_eq_true (show l0_0.length ≤ 16 by omega), decide_eq_true (show 0 ≤ a0_1 from h0), show decide (a0_1 < 4) = decide (a0_1 ≤ 3) from decide_eq_decide.2 (by omega)]; rfl, HB.out⟩
    ·go_wp2
     go_ret
     exact ⟨by unfold tabB; rw [decide_eq_false (show ¬ 0 ≤ a0_1 by omega)]; simp, HB.out⟩
   ·go_wp2
    go_ret
    exact ⟨by unfold tabB; rw [decide_eq_false (show ¬ l0_0.length ≤ 16 by omega)]; simp, HB.out⟩

end Go.Proofs.Ythkagoomlmgcdaa.PJudgeFits
