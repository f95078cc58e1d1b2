-- Made by px.py (a program of this session, over the kit's printer) out of the translation. Not trusted: Lean checks it.
import Derived.Test.YtmgmpifbhjoijaaPProbeReportsx0
import Derived.Test.YtmgmpifbhjoijaaPProbeReportsx2
import Derived.Test.YtmgmpifbhjoijaaPProbeReportsx3
import Derived.Test.YtmgmpifbhjoijaaPProbeReportsx7
import Derived.Test.YtmgmpifbhjoijaaPProbeReportsx9
import Derived.Test.YtmgmpifbhjoijaaPProbeReportsx12
namespace Go.Proofs.Ytmgmpifbhjoijaa.PProbeReports
open Go.RowKit Go.Proofs.YtmgmpifbhjoijaaW.PrintWords Go.Proofs.YtmgmpifbhjoijaaW.PrintLast Go.Proofs.YtmgmpifbhjoijaaW.PrintMore
attribute [local go_sem] max2_int min2_int max_two min_two max_three min_three max_four min_four   -- for this text's walks alone
set_option linter.unusedVariables false
set_option linter.unusedSimpArgs false

/-! ### r26_may: function 87 -/
def r26_may.f (k : Nat) (l0 : List (S28)) (a1 : Int) : Option (Bool) := if a1 ≥ 0 then (if a1 < (l0.length : Int) then ((r12_Test.f k l0).bind fun t222 => (some (t222 == 0))) else (some false)) else (some false)
theorem r26_may.mono : ∀ a0 a1 k, LeO (r26_may.f k a0 a1) (r26_may.f (k + 1) a0 a1) := by
 intro a0 a1 k
 unfold r26_may.f
 repeat' first
   | (with_reducible exact r12_Test.mono _ _)
   | (with_reducible exact LeO.refl _)
   | (with_reducible exact LeO.none _)
   | (with_reducible refine LeO.ite ?_ ?_)
   | (with_reducible refine LeO.bind ?_ (fun _ => ?_))
   | exact r12_Test.mono _ _
   | exact LeO.none _
   | refine LeO.ite ?_ ?_
   | refine LeO.bind ?_ (fun _ => ?_)
set_option maxHeartbeats 8000000 in
set_option maxRecDepth 100000 in
theorem r26_may.calls (k : Nat) (A0 : Option Addr) (c0 : Nat) (l0 : List (S28)) (a1 : Int) (r : Bool) (w : World) (hr0 : Kd.C k28 w A0 l0.length l0) (hc0 : l0.length ≤ c0) (h : r26_may.f k l0 a1 = some r) :
  Calls Try.prog 87 #[.slice A0 l0.length c0, .int .i64 a1] w fun e w' => e = .returned (.bool r) ∧ Below w.heap.size w w' := by
 have HR0 := Aside0.mk hr0
 have HC0 := Aside0.mk hc0
 clear hr0 hc0
 have HB := Aside0.mk (Below.refl w.heap.size w)
 have H : (if a1 ≥ 0 then (if a1 < (l0.length : Int) then ((r12_Test.f k l0).bind fun t222 => (some (t222 == 0))) else (some false)) else (some false)) = some r := h
 clear h
 by_cases c3 : a1 ≥ 0
 ·rw [if_pos c3] at H
  have c3b0 : decide (0 ≤ a1) = true := decide_eq_true c3
  clear c3
  by_cases c4 : a1 < (l0.length : Int)
  ·rw [if_pos c4] at H
   have c4b0 : decide (a1 < (l0.length : Int)) = true := decide_eq_true c4
   clear c4
   replace H := Option.bind_eq_some_iff.mp H
   obtain ⟨t222, A50, H⟩ := H
   replace H : (some (t222 == 0)) = some r := H
   have A5 := Aside0.mk A50
   clear A50
   obtain rfl := Option.some.inj H
   go_enter Try.func87, Try.ntmps87
   go_wp2_with (first | (go_at_call 22; (with_reducible refine (r12_Test.calls k _ _ l0 t222 _ ?side1 ?side2 A5.out).mono ?_); (case side1 => repeat (first | exact HR0.out | (with_reducible refine Kd.C_alloc ?_ _) | (with_reducible refine Kd.C_drewN ?_ _) | (with_reducible refine Kd.C_drew ?_))); (case side2 => exact HC0.out); rintro e w6 ⟨rfl, hb⟩; have n0_ := Aside0.mk (below_step (by repeat (first | (with_reducible first | exact HB.out | apply below_alloc | apply pw_below_drewN | apply below_drew1) | exact HB.out)) hb); clear HB; have HB := n0_; clear n0_; (try clear hb); (try clear hb2); (try clear hk); (try clear hi)))
   go_ret
   exact ⟨by first | rfl | (simp [errW_none, errW_some] <;> rfl) | (simp [*, errW_none, errW_some] <;> rfl), by repeat (first | (with_reducible first | exact HB.out | apply below_alloc | apply pw_below_drewN | apply below_drew1) | exact HB.out)⟩
  ·rw [if_neg c4] at H
   have c4b0 : decide (a1 < (l0.length : Int)) = false := decide_eq_false c4
   clear c4
   obtain rfl := Option.some.inj H
   go_enter Try.func87, Try.ntmps87
   go_wp2
   go_ret
   exact ⟨by first | rfl | (simp [errW_none, errW_some] <;> rfl) | (simp [*, errW_none, errW_some] <;> rfl), by repeat (first | (with_reducible first | exact HB.out | apply below_alloc | apply pw_below_drewN | apply below_drew1) | exact HB.out)⟩
 ·rw [if_neg c3] at H
  have c3b0 : decide (0 ≤ a1) = false := decide_eq_false c3
  clear c3
  obtain rfl := Option.some.inj H
  go_enter Try.func87, Try.ntmps87
  go_wp2
  go_ret
  exact ⟨by first | rfl | (simp [errW_none, errW_some] <;> rfl) | (simp [*, errW_none, errW_some] <;> rfl), by repeat (first | (with_reducible first | exact HB.out | apply below_alloc | apply pw_below_drewN | apply below_drew1) | exact HB.out)⟩

/-! ### r26_with: function 88 -/
def r26_with.f (l0 : List (S28)) (a1 : Int) (a2_0 : Int) (a2_1 : Int) (a2_2 : Int) (a2_3 : Int) (a2_4 : Int) : Option ((List (S28))) := (some (([] : List (S28)) : List (S28))).bind fun y224 => (if y224.length + l0.length < 3518437208883 then ((some (y224 ++ l0 : List (S28))).bind fun y227 => (if 0 ≤ a1 then (if a1 < (y227.length : Int) then (some (y227.set (a1 : Int).toNat (⟨a2_0, a2_1, a2_2, a2_3, a2_4⟩ : S28))) else (none)) else (none))) else (none))
set_option maxHeartbeats 8000000 in
set_option maxRecDepth 100000 in
theorem r26_with.calls (A0 : Option Addr) (c0 : Nat) (l0 : List (S28)) (a1 : Int) (a2_0 : Int) (a2_1 : Int) (a2_2 : Int) (a2_3 : Int) (a2_4 : Int) (r : List (S28)) (w : World) (hr0 : Kd.C k28 w A0 l0.length l0) (hc0 : l0.length ≤ c0) (h : r26_with.f l0 a1 a2_0 a2_1 a2_2 a2_3 a2_4 = some r) :
  Calls Try.prog 88 #[.slice A0 l0.length c0, .int .i64 a1, .agg #[.int .i64 a2_0, .int .i64 a2_1, .int .i64 a2_2, .int .i64 a2_3, .int .i64 a2_4]] w fun e w' => ∃ v0_ : Value, e = .returned (v0_) ∧ Kd.R k28 28 w' w.heap.size (fun _ => True) v0_ r ∧ Below w.heap.size w w' := by
 have hu28 := Try.underlying28
 have HR0 := Aside0.mk hr0
 have HC0 := Aside0.mk hc0
 clear hr0 hc0
 have HB := Aside0.mk (Below.refl w.heap.size w)
 have H : ((some (([] : List (S28)) : List (S28))).bind fun y224 => (if y224.length + l0.length < 3518437208883 then ((some (y224 ++ l0 : List (S28))).bind fun y227 => (if 0 ≤ a1 then (if a1 < (y227.length : Int) then (some (y227.set (a1 : Int).toNat (⟨a2_0, a2_1, a2_2, a2_3, a2_4⟩ : S28))) else (none)) else (none))) else (none))) = some r := h
 clear h
 obtain ⟨y224, hy224⟩ : ∃ y_ : List (S28), y_ = (([] : List (S28))) := ⟨_, rfl⟩
 replace H : (if y224.length + l0.length < 3518437208883 then ((some (y224 ++ l0 : List (S28))).bind fun y227 => (if 0 ≤ a1 then (if a1 < (y227.length : Int) then (some (y227.set (a1 : Int).toNat (⟨a2_0, a2_1, a2_2, a2_3, a2_4⟩ : S28))) else (none)) else (none))) else (none)) = some r := by first | (rw [hy224]; with_reducible exact H) | (have H2_ := (Option.bind_some _ _).symm.trans H; rw [hy224]; with_reducible exact H2_) | (have H2_ := (Option.bind_some _ _).symm.trans H; with_reducible exact H2_) | with_reducible exact H | (rw [hy224]; exact H) | exact H
 have Ny224 := Aside0.mk hy224
 clear hy224
 by_cases c4 : y224.length + l0.length < 3518437208883
 ·rw [if_pos c4] at H
  have LMc4 := Aside0.mk c4
  clear c4
  obtain ⟨y227, hy227⟩ : ∃ y_ : List (S28), y_ = (y224 ++ l0) := ⟨_, rfl⟩
  replace H : (if 0 ≤ a1 then (if a1 < (y227.length : Int) then (some (y227.set (a1 : Int).toNat (⟨a2_0, a2_1, a2_2, a2_3, a2_4⟩ : S28))) else (none)) else (none)) = some r := by first | (rw [hy227]; with_reducible exact H) | (have H2_ := (Option.bind_some _ _).symm.trans H; rw [hy227]; with_reducible exact H2_) | (have H2_ := (Option.bind_some _ _).symm.trans H; with_reducible exact H2_) | with_reducible exact H | (rw [hy227]; exact H) | exact H
  have Ny227 := Aside0.mk hy227
  clear hy227
  by_cases c5 : 0 ≤ a1
  ·rw [if_pos c5] at H
   have c5b0 : decide (0 ≤ a1) = true := decide_eq_true c5
   clear c5
   by_cases c6 : a1 < (y227.length : Int)
   ·rw [if_pos c6] at H
    have c6b0 : decide (a1 < (y227.length : Int)) = true := decide_eq_true c6
    clear c6
    obtain ⟨y230, hy230⟩ : ∃ y_ : List (S28), y_ = (y227.set (a1 : Int).toNat (⟨a2_0, a2_1, a2_2, a2_3, a2_4⟩ : S28)) := ⟨_, rfl⟩
    replace H : (some y230) = some r := by first | (rw [hy230]; with_reducible exact H) | (have H2_ := (Option.bind_some _ _).symm.trans H; rw [hy230]; with_reducible exact H2_) | (have H2_ := (Option.bind_some _ _).symm.trans H; with_reducible exact H2_) | with_reducible exact H | (rw [hy230]; exact H) | exact H
    have Ny230 := Aside0.mk hy230
    clear hy230
    obtain rfl := Option.some.inj H
    go_enter Try.func88, Try.ntmps88
    go_wp2_with (first | ((with_reducible refine gate_dst (N := 5) rfl ?_); refine box_event ?hg (N := 5) ?hd (cs := #[.int .i64 a2_0, .int .i64 a2_1, .int .i64 a2_2, .int .i64 a2_3, .int .i64 a2_4]) (t := 28) ?hr ?_; (case hd => rfl); (case hg => rfl); (case hr => first | (go_simp; done) | (go_simp; rfl)); intro gb223 hg w8 hbox hb; have n0_ := Aside0.mk (below_step (by repeat (first | (with_reducible first | exact HB.out | apply below_alloc | apply pw_below_drewN | apply below_drew1) | exact HB.out)) hb); have n1_ := Aside0.mk (hbox); have n2_ := Aside0.mk ((by rw [hg]; exact (below_size (by repeat (first | (with_reducible first | exact HB.out | apply below_alloc | apply pw_below_drewN | apply below_drew1) | exact HB.out))) : w.heap.size ≤ gb223)); have n3_ := Aside0.mk ((by rw [hg]; exact (below_size (by repeat (first | (with_reducible first | exact HB.out | apply below_alloc | apply pw_below_drewN | apply below_drew1) | exact HB.out))) : w.heap.size ≤ gb223)); clear HB; have HB := n0_; have BK223 := n1_; have GW223 := n2_; have GE223 := n3_; clear n0_ n1_ n2_ n3_; clear hb hbox hg) | ((with_reducible refine gate_dst (N := 8) rfl ?_); refine Kd.R_lit k28 _ 28 ?hg (N := 8) ?hd (xs := ([] : List (S28))) (inner := []) (ok := fun _ => True) (okp := fun _ => True) ?hr ?hp (fun _ hk => hk) trivial (Below.refl _ _) (Nat.le_refl _) (by simp) ?_; (case hd => rfl); (case hg => rfl); (case hr => first | (go_simp; done) | (go_simp; rfl)); (case hp => exact (Reps.none _ _)); intro v225 w9 ho10 hb hg_ hnew_; clear hg_ hnew_; (first | rw [← Ny224.out] at ho10 | (simp only [Int.reduceToNat] at ho10; rw [← Ny224.out] at ho10)); have n0_ := Aside0.mk (Kd.R_lower (Kd.R_newB ho10 (g := gb223) (o := .cells #[.int .i64 a2_0, .int .i64 a2_1, .int .i64 a2_2, .int .i64 a2_3, .int .i64 a2_4] 28 (0, 0)) (by (with_reducible repeat (first | refine blk_drewN ?_ _ | refine blk_drew ?_ | refine blk_alloc ?_ _)); exact BK223.out)) (below_size (by repeat (first | (with_reducible first | exact HB.out | apply below_alloc | apply pw_below_drewN | apply below_drew1 | refine below_set ?_ GE223.out) | exact HB.out)))); have n1_ := Aside0.mk (blk_below (g := gb223) (o := .cells #[.int .i64 a2_0, .int .i64 a2_1, .int .i64 a2_2, .int .i64 a2_3, .int .i64 a2_4] 28 (0, 0)) (by (with_reducible repeat (first | refine blk_drewN ?_ _ | refine blk_drew ?_ | refine blk_alloc ?_ _)); exact BK223.out) hb); have n2_ := Aside0.mk (below_step (by repeat (first | (with_reducible first | exact HB.out | apply below_alloc | apply pw_below_drewN | apply below_drew1 | refine below_set ?_ GE223.out) | exact HB.out)) hb); clear BK223; clear HB; have HO226 := n0_; have BK223 := n1_; have HB := n2_; clear n0_ n1_ n2_; clear hb ho10) | ((with_reducible refine gate_builtin (b := .append) (xs := #[.tmp 8, .tmp 9]) rfl ?_); at_builtin; refine Kd.R_append_rows k28 (w0 := w) w.heap.size rfl (.tmp 8) (.tmp 9) 24 28 (.agg #[(.int .i64 0), (.int .i64 0), (.int .i64 0), (.int .i64 0), (.int .i64 0)]) 40 rfl Try.underlying24 info28 rfl (by decide) (by omega) v225 y224 l0 _ _ _ (fun k_ => k_ ≠ gb223) (fun _ => False) rfl rfl ?aO ?aR (fun _ _ h => h) (fun _ h => h.elim) ?aF ?aB ?aS ?aL ?_; (case aR => repeat (first | exact (Kd.C_below HR0.out HB.out) | (with_reducible refine Kd.C_alloc ?_ _) | (with_reducible refine Kd.C_drewN ?_ _) | (with_reducible refine Kd.C_drew ?_))); (case aB => exact (by repeat (first | (with_reducible first | exact HB.out | apply below_alloc | apply pw_below_drewN | apply below_drew1 | refine below_set ?_ GE223.out) | exact HB.out))); (case aF => exact (fun k_ hk => Kd.freshB (g := gb223) (o := .cells #[.int .i64 a2_0, .int .i64 a2_1, .int .i64 a2_2, .int .i64 a2_3, .int .i64 a2_4] 28 (0, 0)) (by (with_reducible repeat (first | refine blk_drewN ?_ _ | refine blk_drew ?_ | refine blk_alloc ?_ _)); exact BK223.out) k_ hk)); (case aO => exact (by (with_reducible repeat (first | apply Kd.R_alloc | apply Kd.R_drewN | apply Kd.R_drew)); exact Kd.R_mono HO226.out (fun _ hk => hk.2))); (case aS => exact (below_size (by repeat (first | (with_reducible first | exact HB.out | apply below_alloc | apply pw_below_drewN | apply below_drew1 | refine below_set ?_ GE223.out) | exact HB.out)))); (case aL => have := LMc4.out; omega); intro v228 w11 ho hb hg hat; rw [← Ny227.out] at ho; have n0_ := Aside0.mk (blk_grown (g := gb223) (o := .cells #[.int .i64 a2_0, .int .i64 a2_1, .int .i64 a2_2, .int .i64 a2_3, .int .i64 a2_4] 28 (0, 0)) (by (with_reducible repeat (first | refine blk_drewN ?_ _ | refine blk_drew ?_ | refine blk_alloc ?_ _)); exact BK223.out) hg (Kd.R_away HO226.out (fun _ hk => hk.2))); have n1_ := Aside0.mk (hb); have n2_ := Aside0.mk (ho); clear BK223; clear HB; clear HO226; have BK223 := n0_; have HB := n1_; have HO229 := n2_; clear n0_ n1_ n2_; clear ho hb hg hat; have hcz12_0 : w11.cell? ⟨gb223, 0, none⟩ = some (.int .i64 a2_0) := (blk_cell BK223.out 0).trans rfl; have hcz12_1 : w11.cell? ⟨gb223, 1, none⟩ = some (.int .i64 a2_1) := (blk_cell BK223.out 1).trans rfl; have hcz12_2 : w11.cell? ⟨gb223, 2, none⟩ = some (.int .i64 a2_2) := (blk_cell BK223.out 2).trans rfl; have hcz12_3 : w11.cell? ⟨gb223, 3, none⟩ = some (.int .i64 a2_3) := (blk_cell BK223.out 3).trans rfl; have hcz12_4 : w11.cell? ⟨gb223, 4, none⟩ = some (.int .i64 a2_4) := (blk_cell BK223.out 4).trans rfl; have hfz12_0 := blk_frozen BK223.out 0; have hfz12_1 := blk_frozen BK223.out 1; have hfz12_2 := blk_frozen BK223.out 2; have hfz12_3 := blk_frozen BK223.out 3; have hfz12_4 := blk_frozen BK223.out 4; have p7 : 0 ≤ (a1 : Int) := of_decide_eq_true (by first | (with_reducible assumption) | assumption); have q7 : (a1 : Int) < ((y227.length : Int) : Int) := of_decide_eq_true (by first | (with_reducible assumption) | assumption); obtain ⟨go7, co7, eo7, gb7, gl7, cl7, HG7⟩ := Kd.R_form HO229.out (by omega); (first | cases eo7 | (injection eo7 with ea_ en_ ec_; (first | subst ea_ | (injection ea_ with ea_; subst ea_)); subst ec_; clear en_)); have GB7 := Aside0.mk gb7; have GG7 := Aside0.mk HG7; clear gb7 gl7 HG7; obtain ⟨ce7, hcl7, hM7, hcc7, hfr7⟩ := Kd.R_elem HO229.out z28 (a1 : Int) p7 q7; obtain rfl := k28_openM hM7; have hx7_0 : w11.cell? ⟨go7, (a1 : Int).toNat * 5, none⟩ = some (.int .i64 ((rd_T28 y227 a1).f0)) := hcc7 0 _ rfl; have hx7_1 : w11.cell? ⟨go7, (a1 : Int).toNat * 5 + 1, none⟩ = some (.int .i64 ((rd_T28 y227 a1).f1)) := hcc7 1 _ rfl; have hx7_2 : w11.cell? ⟨go7, (a1 : Int).toNat * 5 + 2, none⟩ = some (.int .i64 ((rd_T28 y227 a1).f2)) := hcc7 2 _ rfl; have hx7_3 : w11.cell? ⟨go7, (a1 : Int).toNat * 5 + 3, none⟩ = some (.int .i64 ((rd_T28 y227 a1).f3)) := hcc7 3 _ rfl; have hx7_4 : w11.cell? ⟨go7, (a1 : Int).toNat * 5 + 4, none⟩ = some (.int .i64 ((rd_T28 y227 a1).f4)) := hcc7 4 _ rfl; have hf7_0 : w11.frozen? ⟨go7, (a1 : Int).toNat * 5, none⟩ = false := hfr7 0; have hf7_1 : w11.frozen? ⟨go7, (a1 : Int).toNat * 5 + 1, none⟩ = false := hfr7 1; have hf7_2 : w11.frozen? ⟨go7, (a1 : Int).toNat * 5 + 2, none⟩ = false := hfr7 2; have hf7_3 : w11.frozen? ⟨go7, (a1 : Int).toNat * 5 + 3, none⟩ = false := hfr7 3; have hf7_4 : w11.frozen? ⟨go7, (a1 : Int).toNat * 5 + 4, none⟩ = false := hfr7 4; clear hcl7 hcc7 hfr7 hM7; replace p7 := eq_true p7; replace q7 := eq_true q7; have HX13 := Aside0.mk (show Kd.R k28 28 w11 w.heap.size (fun k_ => k_ ≠ gb223) (.slice (some ⟨go7, 0, none⟩) y227.length co7) y227 from (by (with_reducible repeat (first | apply Kd.R_alloc | apply Kd.R_drewN | apply Kd.R_drew)); exact HO229.out)); obtain ⟨ce13, hcl13, hM13, hcc13, hfr13⟩ := Kd.R_elem HX13.out z28 (a1 : Int) (of_decide_eq_true (by first | (with_reducible assumption) | assumption)) (by have h_ : (a1 : Int) < ((y227.length : Int) : Int) := of_decide_eq_true (by first | (with_reducible assumption) | assumption); first | exact h_ | (have e_ := (Kd.R_reads' HO229.out).1; omega) | simpa using h_); obtain rfl := k28_openM hM13; have HP13 := Kd.R_seg HX13.out (a1 : Int) (of_decide_eq_true (by first | (with_reducible assumption) | assumption)) (by have h_ : (a1 : Int) < ((y227.length : Int) : Int) := of_decide_eq_true (by first | (with_reducible assumption) | assumption); first | exact h_ | (have e_ := (Kd.R_reads' HO229.out).1; omega) | simpa using h_) (seg := [.int .i64 a2_0, .int .i64 a2_1, .int .i64 a2_2, .int .i64 a2_3, .int .i64 a2_4]) (j := 0) hcl13 hcc13 (show 5 ≤ 5 from by decide) (x' := (⟨a2_0, a2_1, a2_2, a2_3, a2_4⟩ : S28)) (k28_mkM _ _ _ (⟨a2_0, a2_1, a2_2, a2_3, a2_4⟩ : S28) ) (fun _ hk => hk); have hx13_0 := hcc13 0 _ rfl; (try simp only [show (k28).sz = 5 from rfl, Nat.mul_one, Nat.add_zero] at hx13_0); have hf13_0 := hfr13 0; (try simp only [show (k28).sz = 5 from rfl, Nat.mul_one, Nat.add_zero] at hf13_0); have hx13_1 := hcc13 1 _ rfl; (try simp only [show (k28).sz = 5 from rfl, Nat.mul_one, Nat.add_zero] at hx13_1); have hf13_1 := hfr13 1; (try simp only [show (k28).sz = 5 from rfl, Nat.mul_one, Nat.add_zero] at hf13_1); have hx13_2 := hcc13 2 _ rfl; (try simp only [show (k28).sz = 5 from rfl, Nat.mul_one, Nat.add_zero] at hx13_2); have hf13_2 := hfr13 2; (try simp only [show (k28).sz = 5 from rfl, Nat.mul_one, Nat.add_zero] at hf13_2); have hx13_3 := hcc13 3 _ rfl; (try simp only [show (k28).sz = 5 from rfl, Nat.mul_one, Nat.add_zero] at hx13_3); have hf13_3 := hfr13 3; (try simp only [show (k28).sz = 5 from rfl, Nat.mul_one, Nat.add_zero] at hf13_3); have hx13_4 := hcc13 4 _ rfl; (try simp only [show (k28).sz = 5 from rfl, Nat.mul_one, Nat.add_zero] at hx13_4); have hf13_4 := hfr13 4; (try simp only [show (k28).sz = 5 from rfl, Nat.mul_one, Nat.add_zero] at hf13_4); clear hcl13 hcc13 hfr13 hM13) | ((with_reducible refine gate_store (t := 28) (p := 14) rfl ?_); refine store_event (t := 28) (p := 14) (v := ?vo_w14) (w1 := (((((w11.setCell ⟨go7, (a1 : Int).toNat * 5, none⟩ (.int .i64 a2_0)).setCell ⟨go7, (a1 : Int).toNat * 5 + 1, none⟩ (.int .i64 a2_1)).setCell ⟨go7, (a1 : Int).toNat * 5 + 2, none⟩ (.int .i64 a2_2)).setCell ⟨go7, (a1 : Int).toNat * 5 + 3, none⟩ (.int .i64 a2_3)).setCell ⟨go7, (a1 : Int).toNat * 5 + 4, none⟩ (.int .i64 a2_4))) ?hg ?ho ?hn ?hr ?_; (case ho => rfl); (case hg => rfl); (case hn => rfl); (case hr => first | (go_simp; done) | (go_simp; rfl)); intro w14 hw; have hg : w11.grownBy w14 (some go7) := (by rw [hw]; exact HP13.2); have hp_ : Kd.R k28 28 w14 w.heap.size (fun k_ => k_ ≠ gb223) (.slice (some ⟨go7, 0, none⟩) y227.length co7) y230 := (by rw [hw, Ny230.out]; exact HP13.1); clear HP13; have n0_ := Aside0.mk (blk_grown (g := gb223) (o := .cells #[.int .i64 a2_0, .int .i64 a2_1, .int .i64 a2_2, .int .i64 a2_3, .int .i64 a2_4] 28 (0, 0)) (by (with_reducible repeat (first | refine blk_drewN ?_ _ | refine blk_drew ?_ | refine blk_alloc ?_ _)); exact BK223.out) hg (Kd.R_away HO229.out (fun _ hk => hk))); have n1_ := Aside0.mk (hp_); have n2_ := Aside0.mk ((by rw [hw]; exact below_set (below_set (below_set (below_set (below_set (HB.out) GB7.out) GB7.out) GB7.out) GB7.out) GB7.out : Below w.heap.size w w14)); clear BK223; clear HO229; clear HB; have BK223 := n0_; have HO229 := n1_; have HB := n2_; clear n0_ n1_ n2_; clear hg hw hp_))
    go_ret
    exact ⟨_, by first | rfl | (simp [errW_none, errW_some] <;> rfl) | (simp [*, errW_none, errW_some] <;> rfl), by (with_reducible repeat (first | apply Kd.R_alloc | apply Kd.R_drewN | apply Kd.R_drew)); exact Kd.R_mono HO229.out (fun _ hk => trivial), by repeat (first | (with_reducible first | exact HB.out | apply below_alloc | apply pw_below_drewN | apply below_drew1 | refine below_set ?_ GE223.out) | exact HB.out)⟩
   ·rw [if_neg c6] at H
    exact absurd H (by simp)
  ·rw [if_neg c5] at H
   exact absurd H (by simp)
 ·rw [if_neg c4] at H
  exact absurd H (by simp)

/-! ### r26_MostC: function 63 -/
def r26_MostC.l0 : Nat → List (S28) → Int → Int → Int → Int → Int → Int → Option (Int)
 | 0, _, _, _, _, _, _, _ => none
 | k + 1, x0, x1, x234000, x234001, x234002, x234003, x234004 => if x234001 < x234002 then ((r26_with.f x0 x1 x234000 (wrap64 (x234001 + 1)) x234002 x234003 x234004).bind fun t234 => ((r12_Test.f k t234).bind fun t237 => (if t237 = 0 then (r26_MostC.l0 k x0 x1 x234000 (wrap64 (x234001 + 1)) x234002 x234003 x234004) else (some (wrap64 ((wrap64 (x234001 + 1)) - 1)))))) else (some x234001)
def r26_MostC.f (k : Nat) (l0 : List (S28)) (a1 : Int) : Option (Int) := (r26_may.f k l0 a1).bind fun t231 => (if t231 = true then (if 0 ≤ a1 then (if a1 < (l0.length : Int) then (r26_MostC.l0 k l0 a1 ((rd_T28 l0 a1).f0) ((rd_T28 l0 a1).f1) ((rd_T28 l0 a1).f2) ((rd_T28 l0 a1).f3) ((rd_T28 l0 a1).f4)) else (none)) else (none)) else (some 0))
theorem r26_MostC.mono_l : ∀ k, (∀ y0 y1 y2 y3 y4 y5 y6, LeO (r26_MostC.l0 k y0 y1 y2 y3 y4 y5 y6) (r26_MostC.l0 (k + 1) y0 y1 y2 y3 y4 y5 y6))
 | 0 => fun _ _ _ _ _ _ _ r h => by simp [r26_MostC.l0] at h
 | k + 1 => by
  have ih0 := r26_MostC.mono_l k
  ·intro y0 y1 y2 y3 y4 y5 y6
   unfold r26_MostC.l0
   repeat' first
   | (with_reducible exact ih0 _ _ _ _ _ _ _)
   | (with_reducible exact r12_Test.mono _ _)
   | (with_reducible exact r26_may.mono _ _ _)
   | (with_reducible exact LeO.refl _)
   | (with_reducible exact LeO.none _)
   | (with_reducible refine LeO.ite ?_ ?_)
   | (with_reducible refine LeO.bind ?_ (fun _ => ?_))
   | exact ih0 _ _ _ _ _ _ _
   | exact r12_Test.mono _ _
   | exact r26_may.mono _ _ _
   | exact LeO.none _
   | refine LeO.ite ?_ ?_
   | refine LeO.bind ?_ (fun _ => ?_)
theorem r26_MostC.mono : ∀ a0 a1 k, LeO (r26_MostC.f k a0 a1) (r26_MostC.f (k + 1) a0 a1) := by
 intro a0 a1 k
 have ih0 := r26_MostC.mono_l k
 unfold r26_MostC.f
 repeat' first
   | (with_reducible exact ih0 _ _ _ _ _ _ _)
   | (with_reducible exact r12_Test.mono _ _)
   | (with_reducible exact r26_may.mono _ _ _)
   | (with_reducible exact LeO.refl _)
   | (with_reducible exact LeO.none _)
   | (with_reducible refine LeO.ite ?_ ?_)
   | (with_reducible refine LeO.bind ?_ (fun _ => ?_))
   | exact ih0 _ _ _ _ _ _ _
   | exact r12_Test.mono _ _
   | exact r26_may.mono _ _ _
   | exact LeO.none _
   | refine LeO.ite ?_ ?_
   | refine LeO.bind ?_ (fun _ => ?_)
set_option maxHeartbeats 8000000 in
set_option maxRecDepth 100000 in
theorem r26_MostC.calls (k : Nat) (A0 : Option Addr) (c0 : Nat) (l0 : List (S28)) (a1 : Int) (r : Int) (w : World) (hr0 : Kd.C k28 w A0 l0.length l0) (hc0 : l0.length ≤ c0) (h : r26_MostC.f k l0 a1 = some r) :
  Calls Try.prog 63 #[.slice A0 l0.length c0, .int .i64 a1] w fun e w' => e = .returned (.int .i64 r) ∧ Below w.heap.size w w' := by
 have hu28 := Try.underlying28
 have HR0 := Aside0.mk hr0
 have HC0 := Aside0.mk hc0
 clear hr0 hc0
 have HB := Aside0.mk (Below.refl w.heap.size w)
 have H : ((r26_may.f k l0 a1).bind fun t231 => (if t231 = true then (if 0 ≤ a1 then (if a1 < (l0.length : Int) then (r26_MostC.l0 k l0 a1 ((rd_T28 l0 a1).f0) ((rd_T28 l0 a1).f1) ((rd_T28 l0 a1).f2) ((rd_T28 l0 a1).f3) ((rd_T28 l0 a1).f4)) else (none)) else (none)) else (some 0))) = some r := h
 clear h
 replace H := Option.bind_eq_some_iff.mp H
 obtain ⟨t231, A30, H⟩ := H
 replace H : (if t231 = true then (if 0 ≤ a1 then (if a1 < (l0.length : Int) then (r26_MostC.l0 k l0 a1 ((rd_T28 l0 a1).f0) ((rd_T28 l0 a1).f1) ((rd_T28 l0 a1).f2) ((rd_T28 l0 a1).f3) ((rd_T28 l0 a1).f4)) else (none)) else (none)) else (some 0)) = some r := H
 have A3 := Aside0.mk A30
 clear A30
 by_cases c4 : t231 = true
 ·subst c4
  have H1 : (if 0 ≤ a1 then (if a1 < (l0.length : Int) then (r26_MostC.l0 k l0 a1 ((rd_T28 l0 a1).f0) ((rd_T28 l0 a1).f1) ((rd_T28 l0 a1).f2) ((rd_T28 l0 a1).f3) ((rd_T28 l0 a1).f4)) else (none)) else (none)) = some r := by rw [if_pos rfl] at H; exact H
  clear H
  have H := H1
  clear H1
  by_cases c5 : 0 ≤ a1
  ·rw [if_pos c5] at H
   have c5b0 : decide (0 ≤ a1) = true := decide_eq_true c5
   clear c5
   by_cases c6 : a1 < (l0.length : Int)
   ·rw [if_pos c6] at H
    have c6b0 : decide (a1 < (l0.length : Int)) = true := decide_eq_true c6
    clear c6
    have H' := Aside0.mk H
    clear H
    go_enter Try.func63, Try.ntmps63
    go_wp2_with (first | ((with_reducible refine gate_callee (f := 87) rfl ?_); refine goesL_ (some 9) rfl rfl Try.func87 (by kernel_rfl) rfl #[.slice A0 l0.length c0, .int .i64 a1] rfl (by (try simp only [List.map_toArray, List.map_cons, List.map_nil]); first | done | rfl | (simp only [List.length_drop, List.length_take]; rfl)) ?_; (with_reducible refine (r26_may.calls k _ _ l0 a1 true _ ?side1 ?side2 A3.out).mono ?_); (case side1 => repeat (first | exact HR0.out | (with_reducible refine Kd.C_alloc ?_ _) | (with_reducible refine Kd.C_drewN ?_ _) | (with_reducible refine Kd.C_drew ?_))); (case side2 => exact HC0.out); rintro e w7 ⟨rfl, hb⟩; refine ⟨_, rfl, ?_⟩; have n0_ := Aside0.mk (below_step (by repeat (first | (with_reducible first | exact HB.out | apply below_alloc | apply pw_below_drewN | apply below_drew1) | exact HB.out)) hb); clear HB; have HB := n0_; clear n0_; (try clear hb); (try clear hb2); (try clear hk); (try clear hi); have p232 : 0 ≤ (a1 : Int) := of_decide_eq_true (by first | (with_reducible assumption) | assumption); have q232 : a1 < (l0.length : Int) := of_decide_eq_true (by first | (with_reducible assumption) | assumption); obtain ⟨ad232, e232, hx232_0, hx232_1, hx232_2, hx232_3, hx232_4⟩ := at_T28 HR0.out a1 p232 q232; cases e232; replace hx232_0 := (HB.out.cell (World.block_lt_of_cell? w _ hx232_0)).trans hx232_0; replace hx232_1 := (HB.out.cell (World.block_lt_of_cell? w _ hx232_1)).trans hx232_1; replace hx232_2 := (HB.out.cell (World.block_lt_of_cell? w _ hx232_2)).trans hx232_2; replace hx232_3 := (HB.out.cell (World.block_lt_of_cell? w _ hx232_3)).trans hx232_3; replace hx232_4 := (HB.out.cell (World.block_lt_of_cell? w _ hx232_4)).trans hx232_4; replace p232 := eq_true p232; replace q232 := eq_true q232) | ((with_reducible refine gate_dst (N := 6) rfl ?_); refine box_event ?hg (N := 6) ?hd (cs := #[.int .i64 0, .int .i64 0, .int .i64 0, .int .i64 0, .int .i64 0]) (t := 28) ?hr ?_; (case hd => rfl); (case hg => rfl); (case hr => first | (go_simp; done) | (go_simp; rfl)); intro gb233 hg w8 hbox hb; have n0_ := Aside0.mk (below_step (by repeat (first | (with_reducible first | exact HB.out | apply below_alloc | apply pw_below_drewN | apply below_drew1) | exact HB.out)) hb); have n1_ := Aside0.mk (hbox); have n2_ := Aside0.mk ((by rw [hg]; exact (below_size (by repeat (first | (with_reducible first | exact HB.out | apply below_alloc | apply pw_below_drewN | apply below_drew1) | exact HB.out))) : w.heap.size ≤ gb233)); have n3_ := Aside0.mk ((by rw [hg]; exact (below_size (by repeat (first | (with_reducible first | exact HB.out | apply below_alloc | apply pw_below_drewN | apply below_drew1) | exact HB.out))) : w.heap.size ≤ gb233)); clear HB; have HB := n0_; have BK233 := n1_; have GW233 := n2_; have GE233 := n3_; clear n0_ n1_ n2_ n3_; clear hb hbox hg; have hcz9_0 : w8.cell? ⟨gb233, 0, none⟩ = some (.int .i64 0) := (blk_cell BK233.out 0).trans rfl; have hcz9_1 : w8.cell? ⟨gb233, 1, none⟩ = some (.int .i64 0) := (blk_cell BK233.out 1).trans rfl; have hcz9_2 : w8.cell? ⟨gb233, 2, none⟩ = some (.int .i64 0) := (blk_cell BK233.out 2).trans rfl; have hcz9_3 : w8.cell? ⟨gb233, 3, none⟩ = some (.int .i64 0) := (blk_cell BK233.out 3).trans rfl; have hcz9_4 : w8.cell? ⟨gb233, 4, none⟩ = some (.int .i64 0) := (blk_cell BK233.out 4).trans rfl; have hfz9_0 := blk_frozen BK233.out 0; have hfz9_1 := blk_frozen BK233.out 1; have hfz9_2 := blk_frozen BK233.out 2; have hfz9_3 := blk_frozen BK233.out 3; have hfz9_4 := blk_frozen BK233.out 4))
    go_loopg [] k (fun kq w' => ∃ (x234001_1 : Int), Aside0 (r26_MostC.l0 kq l0 a1 ((rd_T28 l0 a1).f0) x234001_1 ((rd_T28 l0 a1).f2) ((rd_T28 l0 a1).f3) ((rd_T28 l0 a1).f4) = some r) ∧ Aside0 (kq ≤ k) ∧ Aside0 (w'.heap[gb233]? = some (.cells #[.int .i64 ((rd_T28 l0 a1).f0), .int .i64 x234001_1, .int .i64 ((rd_T28 l0 a1).f2), .int .i64 ((rd_T28 l0 a1).f3), .int .i64 ((rd_T28 l0 a1).f4)] 28 (0, 0))) ∧ Aside0 (Below w.heap.size w w'))
    case atStart => exact ⟨((rd_T28 l0 a1).f1), H', ⟨Nat.le_refl _⟩, ⟨by (with_reducible repeat (first | refine blk_drewN ?_ _ | refine blk_drew ?_ | refine blk_alloc ?_ _)); refine blk_put (cs := #[.int .i64 ((rd_T28 l0 a1).f0), .int .i64 ((rd_T28 l0 a1).f1), .int .i64 ((rd_T28 l0 a1).f2), .int .i64 ((rd_T28 l0 a1).f3), .int .i64 0]) ?_ 4 _ rfl; (with_reducible repeat (first | refine blk_drewN ?_ _ | refine blk_drew ?_ | refine blk_alloc ?_ _)); refine blk_put (cs := #[.int .i64 ((rd_T28 l0 a1).f0), .int .i64 ((rd_T28 l0 a1).f1), .int .i64 ((rd_T28 l0 a1).f2), .int .i64 0, .int .i64 0]) ?_ 3 _ rfl; (with_reducible repeat (first | refine blk_drewN ?_ _ | refine blk_drew ?_ | refine blk_alloc ?_ _)); refine blk_put (cs := #[.int .i64 ((rd_T28 l0 a1).f0), .int .i64 ((rd_T28 l0 a1).f1), .int .i64 0, .int .i64 0, .int .i64 0]) ?_ 2 _ rfl; (with_reducible repeat (first | refine blk_drewN ?_ _ | refine blk_drew ?_ | refine blk_alloc ?_ _)); refine blk_put (cs := #[.int .i64 ((rd_T28 l0 a1).f0), .int .i64 0, .int .i64 0, .int .i64 0, .int .i64 0]) ?_ 1 _ rfl; (with_reducible repeat (first | refine blk_drewN ?_ _ | refine blk_drew ?_ | refine blk_alloc ?_ _)); refine blk_put (cs := #[.int .i64 0, .int .i64 0, .int .i64 0, .int .i64 0, .int .i64 0]) ?_ 0 _ rfl; (with_reducible repeat (first | refine blk_drewN ?_ _ | refine blk_drew ?_ | refine blk_alloc ?_ _)); exact BK233.out⟩, ⟨by repeat (first | (with_reducible first | exact HB.out | apply below_alloc | apply pw_below_drewN | apply below_drew1 | refine below_set ?_ GE233.out) | exact HB.out)⟩⟩
    case round =>
     clear H'
     try clear p2
     try clear q2
     try clear hx2
     try clear c4
     try clear c5
     try clear c5b0
     try clear c6
     try clear c6b0
     try clear c8
     try clear hcz9_0
     try clear hcz9_1
     try clear hcz9_2
     try clear hcz9_3
     try clear hcz9_4
     try clear hfz9_0
     try clear hfz9_1
     try clear hfz9_2
     try clear hfz9_3
     try clear hfz9_4
     try clear hx232_0
     try clear hx232_1
     try clear hx232_2
     try clear hx232_3
     try clear hx232_4
     try clear p232
     try clear q232
     obtain ⟨x234001_1, HA, HK1, BK233, HB⟩ := hrel
     cases gk with
     | zero => exact absurd HA.out (by simp [r26_MostC.l0])
     | succ k1 =>
      have H := HA.out
      clear HA
      simp only [r26_MostC.l0] at H
      by_cases c10 : x234001_1 < ((rd_T28 l0 a1).f2)
      ·rw [if_pos c10] at H
       have c10b0 : decide (x234001_1 < ((rd_T28 l0 a1).f2)) = true := decide_eq_true c10
       clear c10
       replace H := Option.bind_eq_some_iff.mp H
       obtain ⟨t234, A110, H⟩ := H
       replace H : ((r12_Test.f k1 t234).bind fun t237 => (if t237 = 0 then (r26_MostC.l0 k1 l0 a1 ((rd_T28 l0 a1).f0) (wrap64 (x234001_1 + 1)) ((rd_T28 l0 a1).f2) ((rd_T28 l0 a1).f3) ((rd_T28 l0 a1).f4)) else (some (wrap64 ((wrap64 (x234001_1 + 1)) - 1))))) = some r := H
       have A11 := Aside0.mk A110
       clear A110
       replace H := Option.bind_eq_some_iff.mp H
       obtain ⟨t237, A120, H⟩ := H
       replace H : (if t237 = 0 then (r26_MostC.l0 k1 l0 a1 ((rd_T28 l0 a1).f0) (wrap64 (x234001_1 + 1)) ((rd_T28 l0 a1).f2) ((rd_T28 l0 a1).f3) ((rd_T28 l0 a1).f4)) else (some (wrap64 ((wrap64 (x234001_1 + 1)) - 1)))) = some r := H
       have A12 := Aside0.mk A120
       clear A120
       by_cases c13 : t237 = 0
       ·rw [if_pos c13] at H
        have c13b0 : (t237 == 0) = true := beq_iff_eq.mpr c13
        have c13b1 : (t237 != 0) = false := bne_eq_false_iff_eq.mpr c13
        clear c13
        have H' := Aside0.mk H
        clear H
        have hcz14_0 : wr.cell? ⟨gb233, 0, none⟩ = some (.int .i64 ((rd_T28 l0 a1).f0)) := (blk_cell BK233.out 0).trans rfl
        have hcz14_1 : wr.cell? ⟨gb233, 1, none⟩ = some (.int .i64 x234001_1) := (blk_cell BK233.out 1).trans rfl
        have hcz14_2 : wr.cell? ⟨gb233, 2, none⟩ = some (.int .i64 ((rd_T28 l0 a1).f2)) := (blk_cell BK233.out 2).trans rfl
        have hcz14_3 : wr.cell? ⟨gb233, 3, none⟩ = some (.int .i64 ((rd_T28 l0 a1).f3)) := (blk_cell BK233.out 3).trans rfl
        have hcz14_4 : wr.cell? ⟨gb233, 4, none⟩ = some (.int .i64 ((rd_T28 l0 a1).f4)) := (blk_cell BK233.out 4).trans rfl
        have hfz14_0 := blk_frozen BK233.out 0
        have hfz14_1 := blk_frozen BK233.out 1
        have hfz14_2 := blk_frozen BK233.out 2
        have hfz14_3 := blk_frozen BK233.out 3
        have hfz14_4 := blk_frozen BK233.out 4
        go_wp2_with (first | ((with_reducible refine gate_callee (f := 88) rfl ?_); refine goesL_ (some 28) rfl rfl Try.func88 (by kernel_rfl) rfl #[.slice (some ad232) l0.length c0, .int .i64 a1, .agg #[.int .i64 ((rd_T28 l0 a1).f0), .int .i64 (wrap64 (x234001_1 + 1)), .int .i64 ((rd_T28 l0 a1).f2), .int .i64 ((rd_T28 l0 a1).f3), .int .i64 ((rd_T28 l0 a1).f4)]] rfl (by (try simp only [List.map_toArray, List.map_cons, List.map_nil]); first | done | rfl | (simp only [List.length_drop, List.length_take]; rfl)) ?_; (with_reducible refine (r26_with.calls _ _ l0 a1 ((rd_T28 l0 a1).f0) (wrap64 (x234001_1 + 1)) ((rd_T28 l0 a1).f2) ((rd_T28 l0 a1).f3) ((rd_T28 l0 a1).f4) t234 _ ?side1 ?side2 A11.out).mono ?_); (case side1 => exact Kd.C_below HR0.out (by repeat (first | (with_reducible first | exact HB.out | apply below_alloc | apply pw_below_drewN | apply below_drew1 | refine below_set ?_ GE233.out) | exact HB.out))); (case side2 => exact HC0.out); rintro e w15 ⟨v235, rfl, ho0, hb⟩; refine ⟨_, rfl, ?_⟩; have n0_ := Aside0.mk (Kd.R_lower (Kd.R_newB ho0 (g := gb233) (o := .cells #[.int .i64 ((rd_T28 l0 a1).f0), .int .i64 (wrap64 (x234001_1 + 1)), .int .i64 ((rd_T28 l0 a1).f2), .int .i64 ((rd_T28 l0 a1).f3), .int .i64 ((rd_T28 l0 a1).f4)] 28 (0, 0)) (by (with_reducible repeat (first | refine blk_drewN ?_ _ | refine blk_drew ?_ | refine blk_alloc ?_ _)); refine blk_put (cs := #[.int .i64 ((rd_T28 l0 a1).f0), .int .i64 x234001_1, .int .i64 ((rd_T28 l0 a1).f2), .int .i64 ((rd_T28 l0 a1).f3), .int .i64 ((rd_T28 l0 a1).f4)]) ?_ 1 _ rfl; (with_reducible repeat (first | refine blk_drewN ?_ _ | refine blk_drew ?_ | refine blk_alloc ?_ _)); exact BK233.out)) (below_size (by repeat (first | (with_reducible first | exact HB.out | apply below_alloc | apply pw_below_drewN | apply below_drew1 | refine below_set ?_ GE233.out) | exact HB.out)))); have n1_ := Aside0.mk (blk_below (g := gb233) (o := .cells #[.int .i64 ((rd_T28 l0 a1).f0), .int .i64 (wrap64 (x234001_1 + 1)), .int .i64 ((rd_T28 l0 a1).f2), .int .i64 ((rd_T28 l0 a1).f3), .int .i64 ((rd_T28 l0 a1).f4)] 28 (0, 0)) (by (with_reducible repeat (first | refine blk_drewN ?_ _ | refine blk_drew ?_ | refine blk_alloc ?_ _)); refine blk_put (cs := #[.int .i64 ((rd_T28 l0 a1).f0), .int .i64 x234001_1, .int .i64 ((rd_T28 l0 a1).f2), .int .i64 ((rd_T28 l0 a1).f3), .int .i64 ((rd_T28 l0 a1).f4)]) ?_ 1 _ rfl; (with_reducible repeat (first | refine blk_drewN ?_ _ | refine blk_drew ?_ | refine blk_alloc ?_ _)); exact BK233.out) hb); have n2_ := Aside0.mk (below_step (by repeat (first | (with_reducible first | exact HB.out | apply below_alloc | apply pw_below_drewN | apply below_drew1 | refine below_set ?_ GE233.out) | exact HB.out)) hb); clear BK233; clear HB; have HO236 := n0_; have BK233 := n1_; have HB := n2_; clear n0_ n1_ n2_; (try clear hb); (try clear hb2); (try clear hk); (try clear hi); (try clear ho0); obtain ⟨Ao16, co16, eo16⟩ := Kd.R_slice HO236.out; subst eo16) | ((with_reducible refine gate_callee (f := 22) rfl ?_); refine goesL_ (some 29) rfl rfl Try.func22 (by kernel_rfl) rfl #[.slice Ao16 t234.length co16] rfl (by (try simp only [List.map_toArray, List.map_cons, List.map_nil]); first | done | rfl | (simp only [List.length_drop, List.length_take]; rfl)) ?_; (with_reducible refine (r12_Test.calls k1 _ _ t234 t237 _ ?side1 ?side2 A12.out).mono ?_); (case side1 => repeat (first | exact (Kd.R_reads' HO236.out).2.2 | (with_reducible refine Kd.C_alloc ?_ _) | (with_reducible refine Kd.C_drewN ?_ _) | (with_reducible refine Kd.C_drew ?_))); (case side2 => exact (Kd.R_reads' HO236.out).2.1); rintro e w17 ⟨rfl, hb⟩; refine ⟨_, rfl, ?_⟩; have n0_ := Aside0.mk (Kd.R_below (by (with_reducible repeat (first | apply Kd.R_alloc | apply Kd.R_drewN | apply Kd.R_drew)); exact HO236.out) hb); have n1_ := Aside0.mk (blk_below (g := gb233) (o := .cells #[.int .i64 ((rd_T28 l0 a1).f0), .int .i64 (wrap64 (x234001_1 + 1)), .int .i64 ((rd_T28 l0 a1).f2), .int .i64 ((rd_T28 l0 a1).f3), .int .i64 ((rd_T28 l0 a1).f4)] 28 (0, 0)) (by (with_reducible repeat (first | refine blk_drewN ?_ _ | refine blk_drew ?_ | refine blk_alloc ?_ _)); exact BK233.out) hb); have n2_ := Aside0.mk (below_step (by repeat (first | (with_reducible first | exact HB.out | apply below_alloc | apply pw_below_drewN | apply below_drew1 | refine below_set ?_ GE233.out) | exact HB.out)) hb); clear HO236; clear BK233; clear HB; have HO236 := n0_; have BK233 := n1_; have HB := n2_; clear n0_ n1_ n2_; (try clear hb); (try clear hb2); (try clear hk); (try clear hi)))
        go_roundg k1
        case measure => have := HK1.out; omega
        case rel => exact ⟨(wrap64 (x234001_1 + 1)), H', ⟨by have := HK1.out; omega⟩, ⟨by (with_reducible repeat (first | refine blk_drewN ?_ _ | refine blk_drew ?_ | refine blk_alloc ?_ _)); exact BK233.out⟩, ⟨by repeat (first | (with_reducible first | exact HB.out | apply below_alloc | apply pw_below_drewN | apply below_drew1 | refine below_set ?_ GE233.out) | exact HB.out)⟩⟩
       ·rw [if_neg c13] at H
        have c13b0 : (t237 == 0) = false := beq_eq_false_iff_ne.mpr c13
        have c13b1 : (t237 != 0) = true := bne_iff_ne.mpr c13
        obtain rfl := Option.some.inj H
        have hcz18_0 : wr.cell? ⟨gb233, 0, none⟩ = some (.int .i64 ((rd_T28 l0 a1).f0)) := (blk_cell BK233.out 0).trans rfl
        have hcz18_1 : wr.cell? ⟨gb233, 1, none⟩ = some (.int .i64 x234001_1) := (blk_cell BK233.out 1).trans rfl
        have hcz18_2 : wr.cell? ⟨gb233, 2, none⟩ = some (.int .i64 ((rd_T28 l0 a1).f2)) := (blk_cell BK233.out 2).trans rfl
        have hcz18_3 : wr.cell? ⟨gb233, 3, none⟩ = some (.int .i64 ((rd_T28 l0 a1).f3)) := (blk_cell BK233.out 3).trans rfl
        have hcz18_4 : wr.cell? ⟨gb233, 4, none⟩ = some (.int .i64 ((rd_T28 l0 a1).f4)) := (blk_cell BK233.out 4).trans rfl
        have hfz18_0 := blk_frozen BK233.out 0
        have hfz18_1 := blk_frozen BK233.out 1
        have hfz18_2 := blk_frozen BK233.out 2
        have hfz18_3 := blk_frozen BK233.out 3
        have hfz18_4 := blk_frozen BK233.out 4
        go_wp2_with (first | ((with_reducible refine gate_callee (f := 88) rfl ?_); refine goesL_ (some 28) rfl rfl Try.func88 (by kernel_rfl) rfl #[.slice (some ad232) l0.length c0, .int .i64 a1, .agg #[.int .i64 ((rd_T28 l0 a1).f0), .int .i64 (wrap64 (x234001_1 + 1)), .int .i64 ((rd_T28 l0 a1).f2), .int .i64 ((rd_T28 l0 a1).f3), .int .i64 ((rd_T28 l0 a1).f4)]] rfl (by (try simp only [List.map_toArray, List.map_cons, List.map_nil]); first | done | rfl | (simp only [List.length_drop, List.length_take]; rfl)) ?_; (with_reducible refine (r26_with.calls _ _ l0 a1 ((rd_T28 l0 a1).f0) (wrap64 (x234001_1 + 1)) ((rd_T28 l0 a1).f2) ((rd_T28 l0 a1).f3) ((rd_T28 l0 a1).f4) t234 _ ?side1 ?side2 A11.out).mono ?_); (case side1 => exact Kd.C_below HR0.out (by repeat (first | (with_reducible first | exact HB.out | apply below_alloc | apply pw_below_drewN | apply below_drew1 | refine below_set ?_ GE233.out) | exact HB.out))); (case side2 => exact HC0.out); rintro e w19 ⟨v235, rfl, ho0, hb⟩; refine ⟨_, rfl, ?_⟩; have n0_ := Aside0.mk (Kd.R_lower (Kd.R_newB ho0 (g := gb233) (o := .cells #[.int .i64 ((rd_T28 l0 a1).f0), .int .i64 (wrap64 (x234001_1 + 1)), .int .i64 ((rd_T28 l0 a1).f2), .int .i64 ((rd_T28 l0 a1).f3), .int .i64 ((rd_T28 l0 a1).f4)] 28 (0, 0)) (by (with_reducible repeat (first | refine blk_drewN ?_ _ | refine blk_drew ?_ | refine blk_alloc ?_ _)); refine blk_put (cs := #[.int .i64 ((rd_T28 l0 a1).f0), .int .i64 x234001_1, .int .i64 ((rd_T28 l0 a1).f2), .int .i64 ((rd_T28 l0 a1).f3), .int .i64 ((rd_T28 l0 a1).f4)]) ?_ 1 _ rfl; (with_reducible repeat (first | refine blk_drewN ?_ _ | refine blk_drew ?_ | refine blk_alloc ?_ _)); exact BK233.out)) (below_size (by repeat (first | (with_reducible first | exact HB.out | apply below_alloc | apply pw_below_drewN | apply below_drew1 | refine below_set ?_ GE233.out) | exact HB.out)))); have n1_ := Aside0.mk (blk_below (g := gb233) (o := .cells #[.int .i64 ((rd_T28 l0 a1).f0), .int .i64 (wrap64 (x234001_1 + 1)), .int .i64 ((rd_T28 l0 a1).f2), .int .i64 ((rd_T28 l0 a1).f3), .int .i64 ((rd_T28 l0 a1).f4)] 28 (0, 0)) (by (with_reducible repeat (first | refine blk_drewN ?_ _ | refine blk_drew ?_ | refine blk_alloc ?_ _)); refine blk_put (cs := #[.int .i64 ((rd_T28 l0 a1).f0), .int .i64 x234001_1, .int .i64 ((rd_T28 l0 a1).f2), .int .i64 ((rd_T28 l0 a1).f3), .int .i64 ((rd_T28 l0 a1).f4)]) ?_ 1 _ rfl; (with_reducible repeat (first | refine blk_drewN ?_ _ | refine blk_drew ?_ | refine blk_alloc ?_ _)); exact BK233.out) hb); have n2_ := Aside0.mk (below_step (by repeat (first | (with_reducible first | exact HB.out | apply below_alloc | apply pw_below_drewN | apply below_drew1 | refine below_set ?_ GE233.out) | exact HB.out)) hb); clear BK233; clear HB; have HO236 := n0_; have BK233 := n1_; have HB := n2_; clear n0_ n1_ n2_; (try clear hb); (try clear hb2); (try clear hk); (try clear hi); (try clear ho0); obtain ⟨Ao20, co20, eo20⟩ := Kd.R_slice HO236.out; subst eo20) | ((with_reducible refine gate_callee (f := 22) rfl ?_); refine goesL_ (some 29) rfl rfl Try.func22 (by kernel_rfl) rfl #[.slice Ao20 t234.length co20] rfl (by (try simp only [List.map_toArray, List.map_cons, List.map_nil]); first | done | rfl | (simp only [List.length_drop, List.length_take]; rfl)) ?_; (with_reducible refine (r12_Test.calls k1 _ _ t234 t237 _ ?side1 ?side2 A12.out).mono ?_); (case side1 => repeat (first | exact (Kd.R_reads' HO236.out).2.2 | (with_reducible refine Kd.C_alloc ?_ _) | (with_reducible refine Kd.C_drewN ?_ _) | (with_reducible refine Kd.C_drew ?_))); (case side2 => exact (Kd.R_reads' HO236.out).2.1); rintro e w21 ⟨rfl, hb⟩; refine ⟨_, rfl, ?_⟩; have n0_ := Aside0.mk (Kd.R_below (by (with_reducible repeat (first | apply Kd.R_alloc | apply Kd.R_drewN | apply Kd.R_drew)); exact HO236.out) hb); have n1_ := Aside0.mk (blk_below (g := gb233) (o := .cells #[.int .i64 ((rd_T28 l0 a1).f0), .int .i64 (wrap64 (x234001_1 + 1)), .int .i64 ((rd_T28 l0 a1).f2), .int .i64 ((rd_T28 l0 a1).f3), .int .i64 ((rd_T28 l0 a1).f4)] 28 (0, 0)) (by (with_reducible repeat (first | refine blk_drewN ?_ _ | refine blk_drew ?_ | refine blk_alloc ?_ _)); exact BK233.out) hb); have n2_ := Aside0.mk (below_step (by repeat (first | (with_reducible first | exact HB.out | apply below_alloc | apply pw_below_drewN | apply below_drew1 | refine below_set ?_ GE233.out) | exact HB.out)) hb); clear HO236; clear BK233; clear HB; have HO236 := n0_; have BK233 := n1_; have HB := n2_; clear n0_ n1_ n2_; (try clear hb); (try clear hb2); (try clear hk); (try clear hi); have hcz22_0 : w21.cell? ⟨gb233, 0, none⟩ = some (.int .i64 ((rd_T28 l0 a1).f0)) := (blk_cell BK233.out 0).trans rfl; have hcz22_1 : w21.cell? ⟨gb233, 1, none⟩ = some (.int .i64 (wrap64 (x234001_1 + 1))) := (blk_cell BK233.out 1).trans rfl; have hcz22_2 : w21.cell? ⟨gb233, 2, none⟩ = some (.int .i64 ((rd_T28 l0 a1).f2)) := (blk_cell BK233.out 2).trans rfl; have hcz22_3 : w21.cell? ⟨gb233, 3, none⟩ = some (.int .i64 ((rd_T28 l0 a1).f3)) := (blk_cell BK233.out 3).trans rfl; have hcz22_4 : w21.cell? ⟨gb233, 4, none⟩ = some (.int .i64 ((rd_T28 l0 a1).f4)) := (blk_cell BK233.out 4).trans rfl; have hfz22_0 := blk_frozen BK233.out 0; have hfz22_1 := blk_frozen BK233.out 1; have hfz22_2 := blk_frozen BK233.out 2; have hfz22_3 := blk_frozen BK233.out 3; have hfz22_4 := blk_frozen BK233.out 4))
        go_ret
        exact ⟨by first | rfl | (simp [errW_none, errW_some] <;> rfl) | (simp [*, errW_none, errW_some] <;> rfl), by repeat (first | (with_reducible first | exact HB.out | apply below_alloc | apply pw_below_drewN | apply below_drew1 | refine below_set ?_ GE233.out) | exact HB.out)⟩
      ·rw [if_neg c10] at H
       have c10b0 : decide (x234001_1 < ((rd_T28 l0 a1).f2)) = false := decide_eq_false c10
       clear c10
       obtain rfl := Option.some.inj H
       have hcz23_0 : wr.cell? ⟨gb233, 0, none⟩ = some (.int .i64 ((rd_T28 l0 a1).f0)) := (blk_cell BK233.out 0).trans rfl
       have hcz23_1 : wr.cell? ⟨gb233, 1, none⟩ = some (.int .i64 x234001_1) := (blk_cell BK233.out 1).trans rfl
       have hcz23_2 : wr.cell? ⟨gb233, 2, none⟩ = some (.int .i64 ((rd_T28 l0 a1).f2)) := (blk_cell BK233.out 2).trans rfl
       have hcz23_3 : wr.cell? ⟨gb233, 3, none⟩ = some (.int .i64 ((rd_T28 l0 a1).f3)) := (blk_cell BK233.out 3).trans rfl
       have hcz23_4 : wr.cell? ⟨gb233, 4, none⟩ = some (.int .i64 ((rd_T28 l0 a1).f4)) := (blk_cell BK233.out 4).trans rfl
       have hfz23_0 := blk_frozen BK233.out 0
       have hfz23_1 := blk_frozen BK233.out 1
       have hfz23_2 := blk_frozen BK233.out 2
       have hfz23_3 := blk_frozen BK233.out 3
       have hfz23_4 := blk_frozen BK233.out 4
       go_wp2
       go_ret
       exact ⟨by first | rfl | (simp [errW_none, errW_some] <;> rfl) | (simp [*, errW_none, errW_some] <;> rfl), by repeat (first | (with_reducible first | exact HB.out | apply below_alloc | apply pw_below_drewN | apply below_drew1 | refine below_set ?_ GE233.out) | exact HB.out)⟩
   ·rw [if_neg c6] at H
    exact absurd H (by simp)
  ·rw [if_neg c5] at H
   exact absurd H (by simp)
 ·replace c4 := Bool.eq_false_iff.mpr c4
  subst c4
  have H1 : (some 0) = some r := by rw [if_neg (show ¬ (false = true) by decide)] at H; exact H
  clear H
  have H := H1
  clear H1
  obtain rfl := Option.some.inj H
  go_enter Try.func63, Try.ntmps63
  go_wp2_with (first | ((with_reducible refine gate_callee (f := 87) rfl ?_); refine goesL_ (some 9) rfl rfl Try.func87 (by kernel_rfl) rfl #[.slice A0 l0.length c0, .int .i64 a1] rfl (by (try simp only [List.map_toArray, List.map_cons, List.map_nil]); first | done | rfl | (simp only [List.length_drop, List.length_take]; rfl)) ?_; (with_reducible refine (r26_may.calls k _ _ l0 a1 false _ ?side1 ?side2 A3.out).mono ?_); (case side1 => repeat (first | exact HR0.out | (with_reducible refine Kd.C_alloc ?_ _) | (with_reducible refine Kd.C_drewN ?_ _) | (with_reducible refine Kd.C_drew ?_))); (case side2 => exact HC0.out); rintro e w24 ⟨rfl, hb⟩; refine ⟨_, rfl, ?_⟩; have n0_ := Aside0.mk (below_step (by repeat (first | (with_reducible first | exact HB.out | apply below_alloc | apply pw_below_drewN | apply below_drew1) | exact HB.out)) hb); clear HB; have HB := n0_; clear n0_; (try clear hb); (try clear hb2); (try clear hk); (try clear hi)))
  go_ret
  exact ⟨by first | rfl | (simp [errW_none, errW_some] <;> rfl) | (simp [*, errW_none, errW_some] <;> rfl), by repeat (first | (with_reducible first | exact HB.out | apply below_alloc | apply pw_below_drewN | apply below_drew1) | exact HB.out)⟩

/-! ### r26_LeastD: function 64 -/
def r26_LeastD.l0 : Nat → List (S28) → Int → Int → Int → Int → Int → Int → Option (Int)
 | 0, _, _, _, _, _, _, _ => none
 | k + 1, x0, x1, x241000, x241001, x241002, x241003, x241004 => if x241002 > x241001 then ((r26_with.f x0 x1 x241000 x241001 (wrap64 (x241002 - 1)) x241003 x241004).bind fun t241 => ((r12_Test.f k t241).bind fun t244 => (if t244 = 0 then (r26_LeastD.l0 k x0 x1 x241000 x241001 (wrap64 (x241002 - 1)) x241003 x241004) else (some (wrap64 ((wrap64 (x241002 - 1)) + 1)))))) else (some x241002)
def r26_LeastD.f (k : Nat) (l0 : List (S28)) (a1 : Int) : Option (Int) := (r26_may.f k l0 a1).bind fun t238 => (if t238 = true then (if 0 ≤ a1 then (if a1 < (l0.length : Int) then (r26_LeastD.l0 k l0 a1 ((rd_T28 l0 a1).f0) ((rd_T28 l0 a1).f1) ((rd_T28 l0 a1).f2) ((rd_T28 l0 a1).f3) ((rd_T28 l0 a1).f4)) else (none)) else (none)) else (some 0))
theorem r26_LeastD.mono_l : ∀ k, (∀ y0 y1 y2 y3 y4 y5 y6, LeO (r26_LeastD.l0 k y0 y1 y2 y3 y4 y5 y6) (r26_LeastD.l0 (k + 1) y0 y1 y2 y3 y4 y5 y6))
 | 0 => fun _ _ _ _ _ _ _ r h => by simp [r26_LeastD.l0] at h
 | k + 1 => by
  have ih0 := r26_LeastD.mono_l k
  ·intro y0 y1 y2 y3 y4 y5 y6
   unfold r26_LeastD.l0
   repeat' first
   | (with_reducible exact ih0 _ _ _ _ _ _ _)
   | (with_reducible exact r12_Test.mono _ _)
   | (with_reducible exact r26_may.mono _ _ _)
   | (with_reducible exact LeO.refl _)
   | (with_reducible exact LeO.none _)
   | (with_reducible refine LeO.ite ?_ ?_)
   | (with_reducible refine LeO.bind ?_ (fun _ => ?_))
   | exact ih0 _ _ _ _ _ _ _
   | exact r12_Test.mono _ _
   | exact r26_may.mono _ _ _
   | exact LeO.none _
   | refine LeO.ite ?_ ?_
   | refine LeO.bind ?_ (fun _ => ?_)
theorem r26_LeastD.mono : ∀ a0 a1 k, LeO (r26_LeastD.f k a0 a1) (r26_LeastD.f (k + 1) a0 a1) := by
 intro a0 a1 k
 have ih0 := r26_LeastD.mono_l k
 unfold r26_LeastD.f
 repeat' first
   | (with_reducible exact ih0 _ _ _ _ _ _ _)
   | (with_reducible exact r12_Test.mono _ _)
   | (with_reducible exact r26_may.mono _ _ _)
   | (with_reducible exact LeO.refl _)
   | (with_reducible exact LeO.none _)
   | (with_reducible refine LeO.ite ?_ ?_)
   | (with_reducible refine LeO.bind ?_ (fun _ => ?_))
   | exact ih0 _ _ _ _ _ _ _
   | exact r12_Test.mono _ _
   | exact r26_may.mono _ _ _
   | exact LeO.none _
   | refine LeO.ite ?_ ?_
   | refine LeO.bind ?_ (fun _ => ?_)
set_option maxHeartbeats 8000000 in
set_option maxRecDepth 100000 in
theorem r26_LeastD.calls (k : Nat) (A0 : Option Addr) (c0 : Nat) (l0 : List (S28)) (a1 : Int) (r : Int) (w : World) (hr0 : Kd.C k28 w A0 l0.length l0) (hc0 : l0.length ≤ c0) (h : r26_LeastD.f k l0 a1 = some r) :
  Calls Try.prog 64 #[.slice A0 l0.length c0, .int .i64 a1] w fun e w' => e = .returned (.int .i64 r) ∧ Below w.heap.size w w' := by
 have hu28 := Try.underlying28
 have HR0 := Aside0.mk hr0
 have HC0 := Aside0.mk hc0
 clear hr0 hc0
 have HB := Aside0.mk (Below.refl w.heap.size w)
 have H : ((r26_may.f k l0 a1).bind fun t238 => (if t238 = true then (if 0 ≤ a1 then (if a1 < (l0.length : Int) then (r26_LeastD.l0 k l0 a1 ((rd_T28 l0 a1).f0) ((rd_T28 l0 a1).f1) ((rd_T28 l0 a1).f2) ((rd_T28 l0 a1).f3) ((rd_T28 l0 a1).f4)) else (none)) else (none)) else (some 0))) = some r := h
 clear h
 replace H := Option.bind_eq_some_iff.mp H
 obtain ⟨t238, A30, H⟩ := H
 replace H : (if t238 = true then (if 0 ≤ a1 then (if a1 < (l0.length : Int) then (r26_LeastD.l0 k l0 a1 ((rd_T28 l0 a1).f0) ((rd_T28 l0 a1).f1) ((rd_T28 l0 a1).f2) ((rd_T28 l0 a1).f3) ((rd_T28 l0 a1).f4)) else (none)) else (none)) else (some 0)) = some r := H
 have A3 := Aside0.mk A30
 clear A30
 by_cases c4 : t238 = true
 ·subst c4
  have H1 : (if 0 ≤ a1 then (if a1 < (l0.length : Int) then (r26_LeastD.l0 k l0 a1 ((rd_T28 l0 a1).f0) ((rd_T28 l0 a1).f1) ((rd_T28 l0 a1).f2) ((rd_T28 l0 a1).f3) ((rd_T28 l0 a1).f4)) else (none)) else (none)) = some r := by rw [if_pos rfl] at H; exact H
  clear H
  have H := H1
  clear H1
  by_cases c5 : 0 ≤ a1
  ·rw [if_pos c5] at H
   have c5b0 : decide (0 ≤ a1) = true := decide_eq_true c5
   clear c5
   by_cases c6 : a1 < (l0.length : Int)
   ·rw [if_pos c6] at H
    have c6b0 : decide (a1 < (l0.length : Int)) = true := decide_eq_true c6
    clear c6
    have H' := Aside0.mk H
    clear H
    go_enter Try.func64, Try.ntmps64
    go_wp2_with (first | ((with_reducible refine gate_callee (f := 87) rfl ?_); refine goesL_ (some 9) rfl rfl Try.func87 (by kernel_rfl) rfl #[.slice A0 l0.length c0, .int .i64 a1] rfl (by (try simp only [List.map_toArray, List.map_cons, List.map_nil]); first | done | rfl | (simp only [List.length_drop, List.length_take]; rfl)) ?_; (with_reducible refine (r26_may.calls k _ _ l0 a1 true _ ?side1 ?side2 A3.out).mono ?_); (case side1 => repeat (first | exact HR0.out | (with_reducible refine Kd.C_alloc ?_ _) | (with_reducible refine Kd.C_drewN ?_ _) | (with_reducible refine Kd.C_drew ?_))); (case side2 => exact HC0.out); rintro e w7 ⟨rfl, hb⟩; refine ⟨_, rfl, ?_⟩; have n0_ := Aside0.mk (below_step (by repeat (first | (with_reducible first | exact HB.out | apply below_alloc | apply pw_below_drewN | apply below_drew1) | exact HB.out)) hb); clear HB; have HB := n0_; clear n0_; (try clear hb); (try clear hb2); (try clear hk); (try clear hi); have p239 : 0 ≤ (a1 : Int) := of_decide_eq_true (by first | (with_reducible assumption) | assumption); have q239 : a1 < (l0.length : Int) := of_decide_eq_true (by first | (with_reducible assumption) | assumption); obtain ⟨ad239, e239, hx239_0, hx239_1, hx239_2, hx239_3, hx239_4⟩ := at_T28 HR0.out a1 p239 q239; cases e239; replace hx239_0 := (HB.out.cell (World.block_lt_of_cell? w _ hx239_0)).trans hx239_0; replace hx239_1 := (HB.out.cell (World.block_lt_of_cell? w _ hx239_1)).trans hx239_1; replace hx239_2 := (HB.out.cell (World.block_lt_of_cell? w _ hx239_2)).trans hx239_2; replace hx239_3 := (HB.out.cell (World.block_lt_of_cell? w _ hx239_3)).trans hx239_3; replace hx239_4 := (HB.out.cell (World.block_lt_of_cell? w _ hx239_4)).trans hx239_4; replace p239 := eq_true p239; replace q239 := eq_true q239) | ((with_reducible refine gate_dst (N := 6) rfl ?_); refine box_event ?hg (N := 6) ?hd (cs := #[.int .i64 0, .int .i64 0, .int .i64 0, .int .i64 0, .int .i64 0]) (t := 28) ?hr ?_; (case hd => rfl); (case hg => rfl); (case hr => first | (go_simp; done) | (go_simp; rfl)); intro gb240 hg w8 hbox hb; have n0_ := Aside0.mk (below_step (by repeat (first | (with_reducible first | exact HB.out | apply below_alloc | apply pw_below_drewN | apply below_drew1) | exact HB.out)) hb); have n1_ := Aside0.mk (hbox); have n2_ := Aside0.mk ((by rw [hg]; exact (below_size (by repeat (first | (with_reducible first | exact HB.out | apply below_alloc | apply pw_below_drewN | apply below_drew1) | exact HB.out))) : w.heap.size ≤ gb240)); have n3_ := Aside0.mk ((by rw [hg]; exact (below_size (by repeat (first | (with_reducible first | exact HB.out | apply below_alloc | apply pw_below_drewN | apply below_drew1) | exact HB.out))) : w.heap.size ≤ gb240)); clear HB; have HB := n0_; have BK240 := n1_; have GW240 := n2_; have GE240 := n3_; clear n0_ n1_ n2_ n3_; clear hb hbox hg; have hcz9_0 : w8.cell? ⟨gb240, 0, none⟩ = some (.int .i64 0) := (blk_cell BK240.out 0).trans rfl; have hcz9_1 : w8.cell? ⟨gb240, 1, none⟩ = some (.int .i64 0) := (blk_cell BK240.out 1).trans rfl; have hcz9_2 : w8.cell? ⟨gb240, 2, none⟩ = some (.int .i64 0) := (blk_cell BK240.out 2).trans rfl; have hcz9_3 : w8.cell? ⟨gb240, 3, none⟩ = some (.int .i64 0) := (blk_cell BK240.out 3).trans rfl; have hcz9_4 : w8.cell? ⟨gb240, 4, none⟩ = some (.int .i64 0) := (blk_cell BK240.out 4).trans rfl; have hfz9_0 := blk_frozen BK240.out 0; have hfz9_1 := blk_frozen BK240.out 1; have hfz9_2 := blk_frozen BK240.out 2; have hfz9_3 := blk_frozen BK240.out 3; have hfz9_4 := blk_frozen BK240.out 4))
    go_loopg [] k (fun kq w' => ∃ (x241002_1 : Int), Aside0 (r26_LeastD.l0 kq l0 a1 ((rd_T28 l0 a1).f0) ((rd_T28 l0 a1).f1) x241002_1 ((rd_T28 l0 a1).f3) ((rd_T28 l0 a1).f4) = some r) ∧ Aside0 (kq ≤ k) ∧ Aside0 (w'.heap[gb240]? = some (.cells #[.int .i64 ((rd_T28 l0 a1).f0), .int .i64 ((rd_T28 l0 a1).f1), .int .i64 x241002_1, .int .i64 ((rd_T28 l0 a1).f3), .int .i64 ((rd_T28 l0 a1).f4)] 28 (0, 0))) ∧ Aside0 (Below w.heap.size w w'))
    case atStart => exact ⟨((rd_T28 l0 a1).f2), H', ⟨Nat.le_refl _⟩, ⟨by (with_reducible repeat (first | refine blk_drewN ?_ _ | refine blk_drew ?_ | refine blk_alloc ?_ _)); refine blk_put (cs := #[.int .i64 ((rd_T28 l0 a1).f0), .int .i64 ((rd_T28 l0 a1).f1), .int .i64 ((rd_T28 l0 a1).f2), .int .i64 ((rd_T28 l0 a1).f3), .int .i64 0]) ?_ 4 _ rfl; (with_reducible repeat (first | refine blk_drewN ?_ _ | refine blk_drew ?_ | refine blk_alloc ?_ _)); refine blk_put (cs := #[.int .i64 ((rd_T28 l0 a1).f0), .int .i64 ((rd_T28 l0 a1).f1), .int .i64 ((rd_T28 l0 a1).f2), .int .i64 0, .int .i64 0]) ?_ 3 _ rfl; (with_reducible repeat (first | refine blk_drewN ?_ _ | refine blk_drew ?_ | refine blk_alloc ?_ _)); refine blk_put (cs := #[.int .i64 ((rd_T28 l0 a1).f0), .int .i64 ((rd_T28 l0 a1).f1), .int .i64 0, .int .i64 0, .int .i64 0]) ?_ 2 _ rfl; (with_reducible repeat (first | refine blk_drewN ?_ _ | refine blk_drew ?_ | refine blk_alloc ?_ _)); refine blk_put (cs := #[.int .i64 ((rd_T28 l0 a1).f0), .int .i64 0, .int .i64 0, .int .i64 0, .int .i64 0]) ?_ 1 _ rfl; (with_reducible repeat (first | refine blk_drewN ?_ _ | refine blk_drew ?_ | refine blk_alloc ?_ _)); refine blk_put (cs := #[.int .i64 0, .int .i64 0, .int .i64 0, .int .i64 0, .int .i64 0]) ?_ 0 _ rfl; (with_reducible repeat (first | refine blk_drewN ?_ _ | refine blk_drew ?_ | refine blk_alloc ?_ _)); exact BK240.out⟩, ⟨by repeat (first | (with_reducible first | exact HB.out | apply below_alloc | apply pw_below_drewN | apply below_drew1 | refine below_set ?_ GE240.out) | exact HB.out)⟩⟩
    case round =>
     clear H'
     try clear p2
     try clear q2
     try clear hx2
     try clear c4
     try clear c5
     try clear c5b0
     try clear c6
     try clear c6b0
     try clear c8
     try clear hcz9_0
     try clear hcz9_1
     try clear hcz9_2
     try clear hcz9_3
     try clear hcz9_4
     try clear hfz9_0
     try clear hfz9_1
     try clear hfz9_2
     try clear hfz9_3
     try clear hfz9_4
     try clear hx239_0
     try clear hx239_1
     try clear hx239_2
     try clear hx239_3
     try clear hx239_4
     try clear p239
     try clear q239
     obtain ⟨x241002_1, HA, HK1, BK240, HB⟩ := hrel
     cases gk with
     | zero => exact absurd HA.out (by simp [r26_LeastD.l0])
     | succ k1 =>
      have H := HA.out
      clear HA
      simp only [r26_LeastD.l0] at H
      by_cases c10 : x241002_1 > ((rd_T28 l0 a1).f1)
      ·rw [if_pos c10] at H
       have c10b0 : decide (((rd_T28 l0 a1).f1) < x241002_1) = true := decide_eq_true c10
       clear c10
       replace H := Option.bind_eq_some_iff.mp H
       obtain ⟨t241, A110, H⟩ := H
       replace H : ((r12_Test.f k1 t241).bind fun t244 => (if t244 = 0 then (r26_LeastD.l0 k1 l0 a1 ((rd_T28 l0 a1).f0) ((rd_T28 l0 a1).f1) (wrap64 (x241002_1 - 1)) ((rd_T28 l0 a1).f3) ((rd_T28 l0 a1).f4)) else (some (wrap64 ((wrap64 (x241002_1 - 1)) + 1))))) = some r := H
       have A11 := Aside0.mk A110
       clear A110
       replace H := Option.bind_eq_some_iff.mp H
       obtain ⟨t244, A120, H⟩ := H
       replace H : (if t244 = 0 then (r26_LeastD.l0 k1 l0 a1 ((rd_T28 l0 a1).f0) ((rd_T28 l0 a1).f1) (wrap64 (x241002_1 - 1)) ((rd_T28 l0 a1).f3) ((rd_T28 l0 a1).f4)) else (some (wrap64 ((wrap64 (x241002_1 - 1)) + 1)))) = some r := H
       have A12 := Aside0.mk A120
       clear A120
       by_cases c13 : t244 = 0
       ·rw [if_pos c13] at H
        have c13b0 : (t244 == 0) = true := beq_iff_eq.mpr c13
        have c13b1 : (t244 != 0) = false := bne_eq_false_iff_eq.mpr c13
        clear c13
        have H' := Aside0.mk H
        clear H
        have hcz14_0 : wr.cell? ⟨gb240, 0, none⟩ = some (.int .i64 ((rd_T28 l0 a1).f0)) := (blk_cell BK240.out 0).trans rfl
        have hcz14_1 : wr.cell? ⟨gb240, 1, none⟩ = some (.int .i64 ((rd_T28 l0 a1).f1)) := (blk_cell BK240.out 1).trans rfl
        have hcz14_2 : wr.cell? ⟨gb240, 2, none⟩ = some (.int .i64 x241002_1) := (blk_cell BK240.out 2).trans rfl
        have hcz14_3 : wr.cell? ⟨gb240, 3, none⟩ = some (.int .i64 ((rd_T28 l0 a1).f3)) := (blk_cell BK240.out 3).trans rfl
        have hcz14_4 : wr.cell? ⟨gb240, 4, none⟩ = some (.int .i64 ((rd_T28 l0 a1).f4)) := (blk_cell BK240.out 4).trans rfl
        have hfz14_0 := blk_frozen BK240.out 0
        have hfz14_1 := blk_frozen BK240.out 1
        have hfz14_2 := blk_frozen BK240.out 2
        have hfz14_3 := blk_frozen BK240.out 3
        have hfz14_4 := blk_frozen BK240.out 4
        go_wp2_with (first | ((with_reducible refine gate_callee (f := 88) rfl ?_); refine goesL_ (some 28) rfl rfl Try.func88 (by kernel_rfl) rfl #[.slice (some ad239) l0.length c0, .int .i64 a1, .agg #[.int .i64 ((rd_T28 l0 a1).f0), .int .i64 ((rd_T28 l0 a1).f1), .int .i64 (wrap64 (x241002_1 - 1)), .int .i64 ((rd_T28 l0 a1).f3), .int .i64 ((rd_T28 l0 a1).f4)]] rfl (by (try simp only [List.map_toArray, List.map_cons, List.map_nil]); first | done | rfl | (simp only [List.length_drop, List.length_take]; rfl)) ?_; (with_reducible refine (r26_with.calls _ _ l0 a1 ((rd_T28 l0 a1).f0) ((rd_T28 l0 a1).f1) (wrap64 (x241002_1 - 1)) ((rd_T28 l0 a1).f3) ((rd_T28 l0 a1).f4) t241 _ ?side1 ?side2 A11.out).mono ?_); (case side1 => exact Kd.C_below HR0.out (by repeat (first | (with_reducible first | exact HB.out | apply below_alloc | apply pw_below_drewN | apply below_drew1 | refine below_set ?_ GE240.out) | exact HB.out))); (case side2 => exact HC0.out); rintro e w15 ⟨v242, rfl, ho0, hb⟩; refine ⟨_, rfl, ?_⟩; have n0_ := Aside0.mk (Kd.R_lower (Kd.R_newB ho0 (g := gb240) (o := .cells #[.int .i64 ((rd_T28 l0 a1).f0), .int .i64 ((rd_T28 l0 a1).f1), .int .i64 (wrap64 (x241002_1 - 1)), .int .i64 ((rd_T28 l0 a1).f3), .int .i64 ((rd_T28 l0 a1).f4)] 28 (0, 0)) (by (with_reducible repeat (first | refine blk_drewN ?_ _ | refine blk_drew ?_ | refine blk_alloc ?_ _)); refine blk_put (cs := #[.int .i64 ((rd_T28 l0 a1).f0), .int .i64 ((rd_T28 l0 a1).f1), .int .i64 x241002_1, .int .i64 ((rd_T28 l0 a1).f3), .int .i64 ((rd_T28 l0 a1).f4)]) ?_ 2 _ rfl; (with_reducible repeat (first | refine blk_drewN ?_ _ | refine blk_drew ?_ | refine blk_alloc ?_ _)); exact BK240.out)) (below_size (by repeat (first | (with_reducible first | exact HB.out | apply below_alloc | apply pw_below_drewN | apply below_drew1 | refine below_set ?_ GE240.out) | exact HB.out)))); have n1_ := Aside0.mk (blk_below (g := gb240) (o := .cells #[.int .i64 ((rd_T28 l0 a1).f0), .int .i64 ((rd_T28 l0 a1).f1), .int .i64 (wrap64 (x241002_1 - 1)), .int .i64 ((rd_T28 l0 a1).f3), .int .i64 ((rd_T28 l0 a1).f4)] 28 (0, 0)) (by (with_reducible repeat (first | refine blk_drewN ?_ _ | refine blk_drew ?_ | refine blk_alloc ?_ _)); refine blk_put (cs := #[.int .i64 ((rd_T28 l0 a1).f0), .int .i64 ((rd_T28 l0 a1).f1), .int .i64 x241002_1, .int .i64 ((rd_T28 l0 a1).f3), .int .i64 ((rd_T28 l0 a1).f4)]) ?_ 2 _ rfl; (with_reducible repeat (first | refine blk_drewN ?_ _ | refine blk_drew ?_ | refine blk_alloc ?_ _)); exact BK240.out) hb); have n2_ := Aside0.mk (below_step (by repeat (first | (with_reducible first | exact HB.out | apply below_alloc | apply pw_below_drewN | apply below_drew1 | refine below_set ?_ GE240.out) | exact HB.out)) hb); clear BK240; clear HB; have HO243 := n0_; have BK240 := n1_; have HB := n2_; clear n0_ n1_ n2_; (try clear hb); (try clear hb2); (try clear hk); (try clear hi); (try clear ho0); obtain ⟨Ao16, co16, eo16⟩ := Kd.R_slice HO243.out; subst eo16) | ((with_reducible refine gate_callee (f := 22) rfl ?_); refine goesL_ (some 29) rfl rfl Try.func22 (by kernel_rfl) rfl #[.slice Ao16 t241.length co16] rfl (by (try simp only [List.map_toArray, List.map_cons, List.map_nil]); first | done | rfl | (simp only [List.length_drop, List.length_take]; rfl)) ?_; (with_reducible refine (r12_Test.calls k1 _ _ t241 t244 _ ?side1 ?side2 A12.out).mono ?_); (case side1 => repeat (first | exact (Kd.R_reads' HO243.out).2.2 | (with_reducible refine Kd.C_alloc ?_ _) | (with_reducible refine Kd.C_drewN ?_ _) | (with_reducible refine Kd.C_drew ?_))); (case side2 => exact (Kd.R_reads' HO243.out).2.1); rintro e w17 ⟨rfl, hb⟩; refine ⟨_, rfl, ?_⟩; have n0_ := Aside0.mk (Kd.R_below (by (with_reducible repeat (first | apply Kd.R_alloc | apply Kd.R_drewN | apply Kd.R_drew)); exact HO243.out) hb); have n1_ := Aside0.mk (blk_below (g := gb240) (o := .cells #[.int .i64 ((rd_T28 l0 a1).f0), .int .i64 ((rd_T28 l0 a1).f1), .int .i64 (wrap64 (x241002_1 - 1)), .int .i64 ((rd_T28 l0 a1).f3), .int .i64 ((rd_T28 l0 a1).f4)] 28 (0, 0)) (by (with_reducible repeat (first | refine blk_drewN ?_ _ | refine blk_drew ?_ | refine blk_alloc ?_ _)); exact BK240.out) hb); have n2_ := Aside0.mk (below_step (by repeat (first | (with_reducible first | exact HB.out | apply below_alloc | apply pw_below_drewN | apply below_drew1 | refine below_set ?_ GE240.out) | exact HB.out)) hb); clear HO243; clear BK240; clear HB; have HO243 := n0_; have BK240 := n1_; have HB := n2_; clear n0_ n1_ n2_; (try clear hb); (try clear hb2); (try clear hk); (try clear hi)))
        go_roundg k1
        case measure => have := HK1.out; omega
        case rel => exact ⟨(wrap64 (x241002_1 - 1)), H', ⟨by have := HK1.out; omega⟩, ⟨by (with_reducible repeat (first | refine blk_drewN ?_ _ | refine blk_drew ?_ | refine blk_alloc ?_ _)); exact BK240.out⟩, ⟨by repeat (first | (with_reducible first | exact HB.out | apply below_alloc | apply pw_below_drewN | apply below_drew1 | refine below_set ?_ GE240.out) | exact HB.out)⟩⟩
       ·rw [if_neg c13] at H
        have c13b0 : (t244 == 0) = false := beq_eq_false_iff_ne.mpr c13
        have c13b1 : (t244 != 0) = true := bne_iff_ne.mpr c13
        obtain rfl := Option.some.inj H
        have hcz18_0 : wr.cell? ⟨gb240, 0, none⟩ = some (.int .i64 ((rd_T28 l0 a1).f0)) := (blk_cell BK240.out 0).trans rfl
        have hcz18_1 : wr.cell? ⟨gb240, 1, none⟩ = some (.int .i64 ((rd_T28 l0 a1).f1)) := (blk_cell BK240.out 1).trans rfl
        have hcz18_2 : wr.cell? ⟨gb240, 2, none⟩ = some (.int .i64 x241002_1) := (blk_cell BK240.out 2).trans rfl
        have hcz18_3 : wr.cell? ⟨gb240, 3, none⟩ = some (.int .i64 ((rd_T28 l0 a1).f3)) := (blk_cell BK240.out 3).trans rfl
        have hcz18_4 : wr.cell? ⟨gb240, 4, none⟩ = some (.int .i64 ((rd_T28 l0 a1).f4)) := (blk_cell BK240.out 4).trans rfl
        have hfz18_0 := blk_frozen BK240.out 0
        have hfz18_1 := blk_frozen BK240.out 1
        have hfz18_2 := blk_frozen BK240.out 2
        have hfz18_3 := blk_frozen BK240.out 3
        have hfz18_4 := blk_frozen BK240.out 4
        go_wp2_with (first | ((with_reducible refine gate_callee (f := 88) rfl ?_); refine goesL_ (some 28) rfl rfl Try.func88 (by kernel_rfl) rfl #[.slice (some ad239) l0.length c0, .int .i64 a1, .agg #[.int .i64 ((rd_T28 l0 a1).f0), .int .i64 ((rd_T28 l0 a1).f1), .int .i64 (wrap64 (x241002_1 - 1)), .int .i64 ((rd_T28 l0 a1).f3), .int .i64 ((rd_T28 l0 a1).f4)]] rfl (by (try simp only [List.map_toArray, List.map_cons, List.map_nil]); first | done | rfl | (simp only [List.length_drop, List.length_take]; rfl)) ?_; (with_reducible refine (r26_with.calls _ _ l0 a1 ((rd_T28 l0 a1).f0) ((rd_T28 l0 a1).f1) (wrap64 (x241002_1 - 1)) ((rd_T28 l0 a1).f3) ((rd_T28 l0 a1).f4) t241 _ ?side1 ?side2 A11.out).mono ?_); (case side1 => exact Kd.C_below HR0.out (by repeat (first | (with_reducible first | exact HB.out | apply below_alloc | apply pw_below_drewN | apply below_drew1 | refine below_set ?_ GE240.out) | exact HB.out))); (case side2 => exact HC0.out); rintro e w19 ⟨v242, rfl, ho0, hb⟩; refine ⟨_, rfl, ?_⟩; have n0_ := Aside0.mk (Kd.R_lower (Kd.R_newB ho0 (g := gb240) (o := .cells #[.int .i64 ((rd_T28 l0 a1).f0), .int .i64 ((rd_T28 l0 a1).f1), .int .i64 (wrap64 (x241002_1 - 1)), .int .i64 ((rd_T28 l0 a1).f3), .int .i64 ((rd_T28 l0 a1).f4)] 28 (0, 0)) (by (with_reducible repeat (first | refine blk_drewN ?_ _ | refine blk_drew ?_ | refine blk_alloc ?_ _)); refine blk_put (cs := #[.int .i64 ((rd_T28 l0 a1).f0), .int .i64 ((rd_T28 l0 a1).f1), .int .i64 x241002_1, .int .i64 ((rd_T28 l0 a1).f3), .int .i64 ((rd_T28 l0 a1).f4)]) ?_ 2 _ rfl; (with_reducible repeat (first | refine blk_drewN ?_ _ | refine blk_drew ?_ | refine blk_alloc ?_ _)); exact BK240.out)) (below_size (by repeat (first | (with_reducible first | exact HB.out | apply below_alloc | apply pw_below_drewN | apply below_drew1 | refine below_set ?_ GE240.out) | exact HB.out)))); have n1_ := Aside0.mk (blk_below (g := gb240) (o := .cells #[.int .i64 ((rd_T28 l0 a1).f0), .int .i64 ((rd_T28 l0 a1).f1), .int .i64 (wrap64 (x241002_1 - 1)), .int .i64 ((rd_T28 l0 a1).f3), .int .i64 ((rd_T28 l0 a1).f4)] 28 (0, 0)) (by (with_reducible repeat (first | refine blk_drewN ?_ _ | refine blk_drew ?_ | refine blk_alloc ?_ _)); refine blk_put (cs := #[.int .i64 ((rd_T28 l0 a1).f0), .int .i64 ((rd_T28 l0 a1).f1), .int .i64 x241002_1, .int .i64 ((rd_T28 l0 a1).f3), .int .i64 ((rd_T28 l0 a1).f4)]) ?_ 2 _ rfl; (with_reducible repeat (first | refine blk_drewN ?_ _ | refine blk_drew ?_ | refine blk_alloc ?_ _)); exact BK240.out) hb); have n2_ := Aside0.mk (below_step (by repeat (first | (with_reducible first | exact HB.out | apply below_alloc | apply pw_below_drewN | apply below_drew1 | refine below_set ?_ GE240.out) | exact HB.out)) hb); clear BK240; clear HB; have HO243 := n0_; have BK240 := n1_; have HB := n2_; clear n0_ n1_ n2_; (try clear hb); (try clear hb2); (try clear hk); (try clear hi); (try clear ho0); obtain ⟨Ao20, co20, eo20⟩ := Kd.R_slice HO243.out; subst eo20) | ((with_reducible refine gate_callee (f := 22) rfl ?_); refine goesL_ (some 29) rfl rfl Try.func22 (by kernel_rfl) rfl #[.slice Ao20 t241.length co20] rfl (by (try simp only [List.map_toArray, List.map_cons, List.map_nil]); first | done | rfl | (simp only [List.length_drop, List.length_take]; rfl)) ?_; (with_reducible refine (r12_Test.calls k1 _ _ t241 t244 _ ?side1 ?side2 A12.out).mono ?_); (case side1 => repeat (first | exact (Kd.R_reads' HO243.out).2.2 | (with_reducible refine Kd.C_alloc ?_ _) | (with_reducible refine Kd.C_drewN ?_ _) | (with_reducible refine Kd.C_drew ?_))); (case side2 => exact (Kd.R_reads' HO243.out).2.1); rintro e w21 ⟨rfl, hb⟩; refine ⟨_, rfl, ?_⟩; have n0_ := Aside0.mk (Kd.R_below (by (with_reducible repeat (first | apply Kd.R_alloc | apply Kd.R_drewN | apply Kd.R_drew)); exact HO243.out) hb); have n1_ := Aside0.mk (blk_below (g := gb240) (o := .cells #[.int .i64 ((rd_T28 l0 a1).f0), .int .i64 ((rd_T28 l0 a1).f1), .int .i64 (wrap64 (x241002_1 - 1)), .int .i64 ((rd_T28 l0 a1).f3), .int .i64 ((rd_T28 l0 a1).f4)] 28 (0, 0)) (by (with_reducible repeat (first | refine blk_drewN ?_ _ | refine blk_drew ?_ | refine blk_alloc ?_ _)); exact BK240.out) hb); have n2_ := Aside0.mk (below_step (by repeat (first | (with_reducible first | exact HB.out | apply below_alloc | apply pw_below_drewN | apply below_drew1 | refine below_set ?_ GE240.out) | exact HB.out)) hb); clear HO243; clear BK240; clear HB; have HO243 := n0_; have BK240 := n1_; have HB := n2_; clear n0_ n1_ n2_; (try clear hb); (try clear hb2); (try clear hk); (try clear hi); have hcz22_0 : w21.cell? ⟨gb240, 0, none⟩ = some (.int .i64 ((rd_T28 l0 a1).f0)) := (blk_cell BK240.out 0).trans rfl; have hcz22_1 : w21.cell? ⟨gb240, 1, none⟩ = some (.int .i64 ((rd_T28 l0 a1).f1)) := (blk_cell BK240.out 1).trans rfl; have hcz22_2 : w21.cell? ⟨gb240, 2, none⟩ = some (.int .i64 (wrap64 (x241002_1 - 1))) := (blk_cell BK240.out 2).trans rfl; have hcz22_3 : w21.cell? ⟨gb240, 3, none⟩ = some (.int .i64 ((rd_T28 l0 a1).f3)) := (blk_cell BK240.out 3).trans rfl; have hcz22_4 : w21.cell? ⟨gb240, 4, none⟩ = some (.int .i64 ((rd_T28 l0 a1).f4)) := (blk_cell BK240.out 4).trans rfl; have hfz22_0 := blk_frozen BK240.out 0; have hfz22_1 := blk_frozen BK240.out 1; have hfz22_2 := blk_frozen BK240.out 2; have hfz22_3 := blk_frozen BK240.out 3; have hfz22_4 := blk_frozen BK240.out 4))
        go_ret
        exact ⟨by first | rfl | (simp [errW_none, errW_some] <;> rfl) | (simp [*, errW_none, errW_some] <;> rfl), by repeat (first | (with_reducible first | exact HB.out | apply below_alloc | apply pw_below_drewN | apply below_drew1 | refine below_set ?_ GE240.out) | exact HB.out)⟩
      ·rw [if_neg c10] at H
       have c10b0 : decide (((rd_T28 l0 a1).f1) < x241002_1) = false := decide_eq_false c10
       clear c10
       obtain rfl := Option.some.inj H
       have hcz23_0 : wr.cell? ⟨gb240, 0, none⟩ = some (.int .i64 ((rd_T28 l0 a1).f0)) := (blk_cell BK240.out 0).trans rfl
       have hcz23_1 : wr.cell? ⟨gb240, 1, none⟩ = some (.int .i64 ((rd_T28 l0 a1).f1)) := (blk_cell BK240.out 1).trans rfl
       have hcz23_2 : wr.cell? ⟨gb240, 2, none⟩ = some (.int .i64 x241002_1) := (blk_cell BK240.out 2).trans rfl
       have hcz23_3 : wr.cell? ⟨gb240, 3, none⟩ = some (.int .i64 ((rd_T28 l0 a1).f3)) := (blk_cell BK240.out 3).trans rfl
       have hcz23_4 : wr.cell? ⟨gb240, 4, none⟩ = some (.int .i64 ((rd_T28 l0 a1).f4)) := (blk_cell BK240.out 4).trans rfl
       have hfz23_0 := blk_frozen BK240.out 0
       have hfz23_1 := blk_frozen BK240.out 1
       have hfz23_2 := blk_frozen BK240.out 2
       have hfz23_3 := blk_frozen BK240.out 3
       have hfz23_4 := blk_frozen BK240.out 4
       go_wp2
       go_ret
       exact ⟨by first | rfl | (simp [errW_none, errW_some] <;> rfl) | (simp [*, errW_none, errW_some] <;> rfl), by repeat (first | (with_reducible first | exact HB.out | apply below_alloc | apply pw_below_drewN | apply below_drew1 | refine below_set ?_ GE240.out) | exact HB.out)⟩
   ·rw [if_neg c6] at H
    exact absurd H (by simp)
  ·rw [if_neg c5] at H
   exact absurd H (by simp)
 ·replace c4 := Bool.eq_false_iff.mpr c4
  subst c4
  have H1 : (some 0) = some r := by rw [if_neg (show ¬ (false = true) by decide)] at H; exact H
  clear H
  have H := H1
  clear H1
  obtain rfl := Option.some.inj H
  go_enter Try.func64, Try.ntmps64
  go_wp2_with (first | ((with_reducible refine gate_callee (f := 87) rfl ?_); refine goesL_ (some 9) rfl rfl Try.func87 (by kernel_rfl) rfl #[.slice A0 l0.length c0, .int .i64 a1] rfl (by (try simp only [List.map_toArray, List.map_cons, List.map_nil]); first | done | rfl | (simp only [List.length_drop, List.length_take]; rfl)) ?_; (with_reducible refine (r26_may.calls k _ _ l0 a1 false _ ?side1 ?side2 A3.out).mono ?_); (case side1 => repeat (first | exact HR0.out | (with_reducible refine Kd.C_alloc ?_ _) | (with_reducible refine Kd.C_drewN ?_ _) | (with_reducible refine Kd.C_drew ?_))); (case side2 => exact HC0.out); rintro e w24 ⟨rfl, hb⟩; refine ⟨_, rfl, ?_⟩; have n0_ := Aside0.mk (below_step (by repeat (first | (with_reducible first | exact HB.out | apply below_alloc | apply pw_below_drewN | apply below_drew1) | exact HB.out)) hb); clear HB; have HB := n0_; clear n0_; (try clear hb); (try clear hb2); (try clear hk); (try clear hi)))
  go_ret
  exact ⟨by first | rfl | (simp [errW_none, errW_some] <;> rfl) | (simp [*, errW_none, errW_some] <;> rfl), by repeat (first | (with_reducible first | exact HB.out | apply below_alloc | apply pw_below_drewN | apply below_drew1) | exact HB.out)⟩

/-! ### r14_Check: function 69 (by hand) -/
theorem rcheck_is (s : S28) : r09_Check.f s.f0 s.f1 s.f2 s.f3 s.f4 = some (taskB s) := by
 have e : taskB s = true ↔ (tk s).ok := taskB_ok s
 unfold Hm.Tk.ok tk at e
 simp only at e
 unfold r09_Check.f
 by_cases h : taskB s = true
 ·obtain ⟨h1, h2, h3, h4, h5, h6, h7, h8⟩ := e.1 h
  rw [h, if_pos (by omega), if_pos (by omega), if_pos (by omega), if_pos (by omega), if_pos (by omega), if_pos (by omega), if_pos (by omega), decide_eq_true h8]
 ·have hf : taskB s = false := Bool.eq_false_iff.2 h
  rw [hf]
  repeat' split
  all_goals first | rfl | skip
  all_goals (congr 1; rw [decide_eq_false_iff_not]; intro h8; exact h (e.2 ⟨by omega, by omega, by omega, by omega, by omega, by omega, by omega, h8⟩))
-- r09_Check param_Row
def r14_Check.f (l0_0 : List S54) (a0_1 : Int) : Option Bool := some (tabB l0_0 a0_1)
set_option maxHeartbeats 16000000 in
set_option maxRecDepth 100000 in
theorem r14_Check.calls (A0_0 : Option Addr) (c0_0 : Nat) (l0_0 : List S54) (a0_1 : Int) (r : Bool) (w : World) (hr0_0 : Kd.C k54 w A0_0 l0_0.length l0_0) (hc0_0 : l0_0.length ≤ c0_0) (h : r14_Check.f l0_0 a0_1 = some r) :
  Calls Try.prog 69 #[.agg #[.slice A0_0 l0_0.length c0_0, .int .i64 a0_1]] w fun e w' => e = .returned (.bool r) ∧ Below w.heap.size w w' := by
 have hu52 := Try.underlying52
 have hu54 := Try.underlying54
 have hu28 := Try.underlying28
 have hmax : l0_0.length ≤ 9223372036854775807 := Kd.C_max hr0_0
 have HR0 := Aside0.mk hr0_0
 have HC0 := Aside0.mk hc0_0
 clear hr0_0 hc0_0
 obtain rfl := Option.some.inj h
 clear h
 have HB := Aside0.mk (Below.refl w.heap.size w)
 go_enter Try.func69, Try.ntmps69
 go_wp2_with ((with_reducible refine gate_dst (N := 1) rfl ?_); refine box_event ?hg (N := 1) ?hd (cs := #[.slice A0_0 l0_0.length c0_0, .int .i64 a0_1]) (t := 52) ?hr ?_; (case hd => rfl); (case hg => rfl); (case hr => first | (go_simp; done) | (go_simp; rfl)); intro gt hg w2 hbox hb; have n0_ := Aside0.mk (below_step HB.out hb); have BK := Aside0.mk hbox; have GE := Aside0.mk (show w.heap.size ≤ gt by rw [hg]; exact Nat.le_refl _); clear HB; have HB := n0_; clear n0_; clear hb hbox hg; have hcz0 : w2.cell? ⟨gt, 0, none⟩ = some (.slice A0_0 l0_0.length c0_0) := (blk_cell BK.out 0).trans rfl; have hcz1 : w2.cell? ⟨gt, 1, none⟩ = some (.int .i64 a0_1) := (blk_cell BK.out 1).trans rfl)
 go_loopw [3] (fun v8 wr => ∃ k : Nat, k ≤ l0_0.length ∧ v8 = .int .i64 k ∧ Aside0 (tabGo none l0_0 = tabGo (prevI l0_0 k) (l0_0.drop k)) ∧ Aside0 (wr.heap[gt]? = some (.cells #[.slice A0_0 l0_0.length c0_0, .int .i64 a0_1] 52 (0, 0))) ∧ Aside0 (Below w.heap.size w wr)) (fun v8 _ => l0_0.length - (intOf v8).toNat)
 case atStart => exact ⟨0, Nat.zero_le _, rfl, ⟨rfl⟩, BK, HB⟩
 case round =>
  try clear hcz0
  try clear hcz1
  clear BK HB
  obtain ⟨k, hk, rfl, HG, BK, HB⟩ := hrel
  have hcz0 : wr.cell? ⟨gt, 0, none⟩ = some (.slice A0_0 l0_0.length c0_0) := (blk_cell BK.out 0).trans rfl
  have hcz1 : wr.cell? ⟨gt, 1, none⟩ = some (.int .i64 a0_1) := (blk_cell BK.out 1).trans rfl
  by_cases hlt : k < l0_0.length
  ·have p0 : (0 : Int) ≤ (k : Int) := by omega
   have q0 : (k : Int) < (l0_0.length : Int) := by omega
   obtain ⟨ad, e0, hx0, hx1, hx2, hx3, hx4, hx5⟩ := at_T54 HR0.out k p0 q0
   cases e0
   replace hx0 := (HB.out.cell (World.block_lt_of_cell? w _ hx0)).trans hx0
   replace hx1 := (HB.out.cell (World.block_lt_of_cell? w _ hx1)).trans hx1
   replace hx2 := (HB.out.cell (World.block_lt_of_cell? w _ hx2)).trans hx2
   replace hx3 := (HB.out.cell (World.block_lt_of_cell? w _ hx3)).trans hx3
   replace hx4 := (HB.out.cell (World.block_lt_of_cell? w _ hx4)).trans hx4
   replace hx5 := (HB.out.cell (World.block_lt_of_cell? w _ hx5)).trans hx5
   simp only [Int.toNat_natCast] at hx0 hx1 hx2 hx3 hx4 hx5
   have HS := Aside0.mk (tabGo_step hlt)
   obtain ⟨x, hx⟩ : ∃ x, rd_T54 l0_0 (k : Int) = x := ⟨_, rfl⟩
   rw [hx] at hx0 hx1 hx2 hx3 hx4 hx5 HS
   have HX := Aside0.mk hx
   clear hx
   have HCK := Aside0.mk (rcheck_is x.f0)
   go_upto_region 6 with (first | ((with_reducible refine gate_dst (N := 4) rfl ?_); refine box_event ?hg (N := 4) ?hd (cs := #[.int .i64 0, .int .i64 0, .int .i64 0, .int .i64 0, .int .i64 0, .bool false]) (t := 54) ?hr ?_; (case hd => rfl); (case hg => rfl); (case hr => first | (go_simp; done) | (go_simp; rfl)); intro g4 hg w8 hbox hb; have n0_ := Aside0.mk (blk_below BK.out hb); have n1_ := Aside0.mk (below_step HB.out hb); have B4 := Aside0.mk hbox; have G4 := Aside0.mk (show w.heap.size ≤ g4 by rw [hg]; exact below_size HB.out); have N4 := Aside0.mk (show gt ≠ g4 by rw [hg]; exact Nat.ne_of_lt (blk_lt BK.out)); clear BK HB hcz0 hcz1; have BK := n0_; have HB := n1_; clear n0_ n1_; clear hb hbox hg; have hnb := N4.out; have hnc := Ne.symm N4.out; have z0 : w8.cell? ⟨g4, 0, none⟩ = some (.int .i64 0) := (blk_cell B4.out 0).trans rfl; have z1 : w8.cell? ⟨g4, 1, none⟩ = some (.int .i64 0) := (blk_cell B4.out 1).trans rfl; have z2 : w8.cell? ⟨g4, 2, none⟩ = some (.int .i64 0) := (blk_cell B4.out 2).trans rfl; have z3 : w8.cell? ⟨g4, 3, none⟩ = some (.int .i64 0) := (blk_cell B4.out 3).trans rfl; have z4 : w8.cell? ⟨g4, 4, none⟩ = some (.int .i64 0) := (blk_cell B4.out 4).trans rfl; have z5 : w8.cell? ⟨g4, 5, none⟩ = some (.bool false) := (blk_cell B4.out 5).trans rfl; have y0 := blk_frozen B4.out 0; have y1 := blk_frozen B4.out 1; have y2 := blk_frozen B4.out 2; have y3 := blk_frozen B4.out 3; have y4 := blk_frozen B4.out 4; have y5 := blk_frozen B4.out 5) | (go_at_call 35; refine (r09_Check.calls x.f0.f0 x.f0.f1 x.f0.f2 x.f0.f3 x.f0.f4 _ _ HCK.out).mono ?_; rintro e w9 ⟨rfl, hb9⟩; have n0_ := Aside0.mk (blk_below (put6_far BK.out N4.out x) hb9); have n1_ := Aside0.mk (blk_below (put6_at B4.out x) hb9); have n2_ := Aside0.mk (below_step (put6_below HB.out G4.out x) hb9); clear hb9 BK B4 HB hx0 hx1 hx2 hx3 hx4 hx5 z0 z1 z2 z3 z4 z5 y0 y1 y2 y3 y4 y5 hnb hnc; have BK := n0_; have B4 := n1_; have HB := n2_; clear n0_ n1_ n2_))
   (try simp only [Act.put, List.setIfInBounds_toArray, List.set_cons_zero, List.set_cons_succ])
   have t0 : w9.cell? ⟨gt, 0, none⟩ = some (.slice (some ad) l0_0.length c0_0) := (blk_cell BK.out 0).trans rfl
   have s0 : w9.cell? ⟨g4, 0, none⟩ = some (.int .i64 x.f0.f0) := (blk_cell B4.out 0).trans rfl
   have s1 : w9.cell? ⟨g4, 1, none⟩ = some (.int .i64 x.f0.f1) := (blk_cell B4.out 1).trans rfl
   have s2 : w9.cell? ⟨g4, 2, none⟩ = some (.int .i64 x.f0.f2) := (blk_cell B4.out 2).trans rfl
   have s3 : w9.cell? ⟨g4, 3, none⟩ = some (.int .i64 x.f0.f3) := (blk_cell B4.out 3).trans rfl
   have s4 : w9.cell? ⟨g4, 4, none⟩ = some (.int .i64 x.f0.f4) := (blk_cell B4.out 4).trans rfl
   have s5 : w9.cell? ⟨g4, 5, none⟩ = some (.bool x.f1) := (blk_cell B4.out 5).trans rfl
   go_cut [5, 53] (fun v5 v47 wc => ∃ b : Bool, v47 = .bool b ∧ Aside0 (rowOk (prevI l0_0 k) x = !b) ∧ Aside0 (wc.heap[gt]? = some (.cells #[.slice (some ad) l0_0.length c0_0, .int .i64 a0_1] 52 (0, 0))) ∧ Aside0 (Below w.heap.size w wc))
   case first =>
    obtain ⟨sv, hsv⟩ : ∃ sv, x.f1 = sv := ⟨_, rfl⟩
    rw [hsv] at s5 B4
    have HSV := Aside0.mk hsv
    clear hsv
    cases hb1 : taskB x.f0 with
    | false =>
     have HT1 := Aside0.mk hb1
     clear hb1
     go_quiet (fail)
     try go_wp2
     go_meet
     case rel => exact ⟨_, by first | rfl | (simp; done), ⟨by simp [rowOk, HT1.out]⟩, ⟨blk_drewN BK.out _⟩, ⟨pw_below_drewN HB.out _⟩⟩
    | true =>
     have HT1 := Aside0.mk hb1
     clear hb1
     cases sv with
     | true =>
      by_cases hD : x.f0.f2 = x.f0.f3
      ·have hd1 : (x.f0.f2 != x.f0.f3) = false := bne_eq_false_iff_eq.mpr hD
       have hd0 : (x.f0.f2 == x.f0.f3) = true := beq_iff_eq.mpr hD
       have HD := Aside0.mk hD
       clear hD
       cases k with
       | zero =>
        have hk0 : decide ((0 : Int) < ((0 : Nat) : Int)) = false := rfl
        go_quiet (fail)
        try go_wp2
        go_meet
        case rel => exact ⟨_, by first | rfl | (simp; done), ⟨by simp [rowOk, prevI, HT1.out, HSV.out, HD.out]⟩, ⟨blk_drewN BK.out _⟩, ⟨pw_below_drewN HB.out _⟩⟩
       | succ j =>
        have hj0 : (0 : Int) ≤ (j : Int) := by omega
        have hj1 : (j : Int) < (l0_0.length : Int) := by omega
        have hjw : wrap64 (j : Int) = (j : Int) := by unfold wrap64; omega
        have hk0 : decide ((0 : Int) < ((j + 1 : Nat) : Int)) = true := decide_eq_true (by omega)
        obtain ⟨ad_, e0, hy0, hy1, hy2, hy3, hy4, hy5⟩ := at_T54 HR0.out j hj0 hj1
        obtain rfl : ad = ad_ := (by injection e0)
        simp only [Int.toNat_natCast] at hy0
        clear hy1 hy2 hy3 hy4 hy5
        have c0 := (HB.out.cell (World.block_lt_of_cell? w _ hy0)).trans hy0
        obtain ⟨y, hy⟩ : ∃ y, rd_T54 l0_0 (j : Int) = y := ⟨_, rfl⟩
        rw [hy] at hy0 c0
        have HY := Aside0.mk hy
        clear hy
        have hjt : (j : Int).toNat = j := Int.toNat_natCast j
        go_quiet (fail)
        try go_wp2
        go_meet
        case rel => exact ⟨_, by first | rfl | (simp; done), ⟨lastD HT1.out HSV.out HY.out hd0⟩, ⟨blk_drewN BK.out _⟩, ⟨pw_below_drewN HB.out _⟩⟩
      ·have hd1 : (x.f0.f2 != x.f0.f3) = true := bne_iff_ne.mpr hD
       have hd0 : (x.f0.f2 == x.f0.f3) = false := beq_eq_false_iff_ne.mpr hD
       have HD := Aside0.mk hD
       clear hD
       go_quiet (fail)
       try go_wp2
       go_meet
       case rel => exact ⟨_, by first | rfl | (simp; done), ⟨by simp [rowOk, HT1.out, HSV.out, HD.out]⟩, ⟨blk_drewN BK.out _⟩, ⟨pw_below_drewN HB.out _⟩⟩
     | false =>
      cases k with
      | zero =>
       have hk0 : decide ((0 : Int) < ((0 : Nat) : Int)) = false := rfl
       go_quiet (fail)
       try go_wp2
       go_meet
       case rel => exact ⟨_, by first | rfl | (simp; done), ⟨by simp [rowOk, prevI, HT1.out, HSV.out]⟩, ⟨blk_drewN BK.out _⟩, ⟨pw_below_drewN HB.out _⟩⟩
      | succ j =>
       have hj0 : (0 : Int) ≤ (j : Int) := by omega
       have hj1 : (j : Int) < (l0_0.length : Int) := by omega
       have hjw : wrap64 (j : Int) = (j : Int) := by unfold wrap64; omega
       have hk0 : decide ((0 : Int) < ((j + 1 : Nat) : Int)) = true := decide_eq_true (by omega)
       obtain ⟨ad_, e0, hy0, hy1, hy2, hy3, hy4, hy5⟩ := at_T54 HR0.out j hj0 hj1
       obtain rfl : ad = ad_ := (by injection e0)
       simp only [Int.toNat_natCast] at hy0
       clear hy1 hy2 hy3 hy4 hy5
       have c0 := (HB.out.cell (World.block_lt_of_cell? w _ hy0)).trans hy0
       obtain ⟨y, hy⟩ : ∃ y, rd_T54 l0_0 (j : Int) = y := ⟨_, rfl⟩
       rw [hy] at hy0 c0
       have HY := Aside0.mk hy
       clear hy
       have hjt : (j : Int).toNat = j := Int.toNat_natCast j
       go_quiet (fail)
       try go_wp2
       go_meet
       case rel => exact ⟨_, by first | rfl | (simp; done), ⟨lastF HT1.out HSV.out HY.out⟩, ⟨blk_drewN BK.out _⟩, ⟨pw_below_drewN HB.out _⟩⟩
   case rest =>
    clear HCK t0 s0 s1 s2 s3 s4 s5 BK HB B4
    obtain ⟨b, rfl, HOK, BK, HB⟩ := hcut
    cases b with
    | true =>
     go_wp2
     go_ret
     exact ⟨by unfold tabB; rw [HG.out, HS.out, HOK.out]; rfl, HB.out⟩
    | false =>
     go_wp2
     go_roundw
     case rel => exact ⟨k + 1, by omega, by go_num, ⟨by rw [HG.out, HS.out, HOK.out]; rfl⟩, BK, HB⟩
     case measure => simp [intOf]; omega
  ·have hkl : k = l0_0.length := by omega
   have HGG : Aside0 (tabGo none l0_0 = true) := ⟨by rw [HG.out, hkl]; exact tabGo_end l0_0⟩
   clear hkl HG
   by_cases h16 : (l0_0.length : Int) ≤ 16
   ·by_cases h0 : a0_1 ≥ 0
    ·go_wp2
     go_ret
     exact ⟨by unfold tabB; rw [HGG.out, decide_eq_true (show l0_0.length ≤ 16 by omega), decide_eq_true (show 0 ≤ a0_1 from h0), show decide (a0_1 < 4) = decide (a0_1 ≤ 3) from decide_eq_decide.2 (by omega)]; rfl, HB.out⟩
    ·go_wp2
     go_ret
     exact ⟨by unfold tabB; rw [decide_eq_false (show ¬ 0 ≤ a0_1 by omega)]; simp, HB.out⟩
   ·go_wp2
    go_ret
    exact ⟨by unfold tabB; rw [decide_eq_false (show ¬ l0_0.length ≤ 16 by omega)]; simp, HB.out⟩

end Go.Proofs.Ytmgmpifbhjoijaa.PProbeReports
