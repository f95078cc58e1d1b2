-- Made by px.py (a program of this session, over the kit's printer) out of the translation. Not trusted: Lean checks it.
import Derived.Test.YtaifojmlbbaabaaPParamLoadx0
import Derived.Test.YtaifojmlbbaabaaPParamLoadx1
namespace Go.Proofs.Ytaifojmlbbaabaa.PParamLoad
open Go.RowKit Go.Proofs.YtaifojmlbbaabaaW.PrintWords Go.Proofs.YtaifojmlbbaabaaW.PrintLast Go.Proofs.YtaifojmlbbaabaaW.PrintMore
attribute [local go_sem] max2_int min2_int max_two min_two max_three min_three max_four min_four   -- for this text's walks alone
set_option linter.unusedVariables false
set_option linter.unusedSimpArgs false

/-! ### horariumlaw09_made: function 21 -/
def horariumlaw09_made.l0 : Nat → List (S31) → List (S28) → Int → Option ((List (S28)))
  | 0, _, _, _ => none
  | k + 1, x0, x3, x4 => if x4 < (x0.length : Int) then (if x4 < 16 then (if 0 ≤ x4 then (if (wrap64 (1 + (Int.tmod (wrap64 ((Int.tmod ((rd_T31 x0 x4).f2) 24) + 24)) 24))) = 0 then (none) else (if (wrap64 (1 + (Int.tmod (wrap64 ((Int.tmod ((rd_T31 x0 x4).f1) (wrap64 (1 + (Int.tmod (wrap64 ((Int.tmod ((rd_T31 x0 x4).f2) 24) + 24)) 24)))) + (wrap64 (1 + (Int.tmod (wrap64 ((Int.tmod ((rd_T31 x0 x4).f2) 24) + 24)) 24))))) (wrap64 (1 + (Int.tmod (wrap64 ((Int.tmod ((rd_T31 x0 x4).f2) 24) + 24)) 24)))))) = 0 then (none) else (if x3.length < 3518437208883 then (horariumlaw09_made.l0 k x0 (x3 ++ [(⟨x4, wrap64 (1 + (Int.tmod (wrap64 ((Int.tmod ((rd_T31 x0 x4).f0) (wrap64 (1 + (Int.tmod (wrap64 ((Int.tmod ((rd_T31 x0 x4).f1) (wrap64 (1 + (Int.tmod (wrap64 ((Int.tmod ((rd_T31 x0 x4).f2) 24) + 24)) 24)))) + (wrap64 (1 + (Int.tmod (wrap64 ((Int.tmod ((rd_T31 x0 x4).f2) 24) + 24)) 24))))) (wrap64 (1 + (Int.tmod (wrap64 ((Int.tmod ((rd_T31 x0 x4).f2) 24) + 24)) 24))))))) + (wrap64 (1 + (Int.tmod (wrap64 ((Int.tmod ((rd_T31 x0 x4).f1) (wrap64 (1 + (Int.tmod (wrap64 ((Int.tmod ((rd_T31 x0 x4).f2) 24) + 24)) 24)))) + (wrap64 (1 + (Int.tmod (wrap64 ((Int.tmod ((rd_T31 x0 x4).f2) 24) + 24)) 24))))) (wrap64 (1 + (Int.tmod (wrap64 ((Int.tmod ((rd_T31 x0 x4).f2) 24) + 24)) 24)))))))) (wrap64 (1 + (Int.tmod (wrap64 ((Int.tmod ((rd_T31 x0 x4).f1) (wrap64 (1 + (Int.tmod (wrap64 ((Int.tmod ((rd_T31 x0 x4).f2) 24) + 24)) 24)))) + (wrap64 (1 + (Int.tmod (wrap64 ((Int.tmod ((rd_T31 x0 x4).f2) 24) + 24)) 24))))) (wrap64 (1 + (Int.tmod (wrap64 ((Int.tmod ((rd_T31 x0 x4).f2) 24) + 24)) 24)))))))), wrap64 (1 + (Int.tmod (wrap64 ((Int.tmod ((rd_T31 x0 x4).f1) (wrap64 (1 + (Int.tmod (wrap64 ((Int.tmod ((rd_T31 x0 x4).f2) 24) + 24)) 24)))) + (wrap64 (1 + (Int.tmod (wrap64 ((Int.tmod ((rd_T31 x0 x4).f2) 24) + 24)) 24))))) (wrap64 (1 + (Int.tmod (wrap64 ((Int.tmod ((rd_T31 x0 x4).f2) 24) + 24)) 24))))), wrap64 (1 + (Int.tmod (wrap64 ((Int.tmod ((rd_T31 x0 x4).f2) 24) + 24)) 24)), 1⟩ : S28)]) (wrap64 (x4 + 1))) else (none)))) else (none)) else (some x3)) else (some x3)
def horariumlaw09_made.f (k : Nat) (l0 : List (S31)) : Option ((List (S28))) := horariumlaw09_made.l0 k l0 ([] : List (S28)) 0
theorem horariumlaw09_made.mono_l : ∀ k, (∀ y0 y1 y2, LeO (horariumlaw09_made.l0 k y0 y1 y2) (horariumlaw09_made.l0 (k + 1) y0 y1 y2))
  | 0 => fun _ _ _ r h => by simp [horariumlaw09_made.l0] at h
  | k + 1 => by
    have ih0 := horariumlaw09_made.mono_l k
    · intro y0 y1 y2
      unfold horariumlaw09_made.l0
      repeat' first
      | (with_reducible exact ih0 _ _ _)
      | (with_reducible exact LeO.refl _)
      | (with_reducible exact LeO.none _)
      | (with_reducible refine LeO.ite ?_ ?_)
      | (with_reducible refine LeO.bind ?_ (fun _ => ?_))
      | exact ih0 _ _ _
      | exact LeO.none _
      | refine LeO.ite ?_ ?_
      | refine LeO.bind ?_ (fun _ => ?_)
theorem horariumlaw09_made.mono : ∀ a0 k, LeO (horariumlaw09_made.f k a0) (horariumlaw09_made.f (k + 1) a0) := by
  intro a0 k
  have ih0 := horariumlaw09_made.mono_l k
  unfold horariumlaw09_made.f
  repeat' first
      | (with_reducible exact ih0 _ _ _)
      | (with_reducible exact LeO.refl _)
      | (with_reducible exact LeO.none _)
      | (with_reducible refine LeO.ite ?_ ?_)
      | (with_reducible refine LeO.bind ?_ (fun _ => ?_))
      | exact ih0 _ _ _
      | exact LeO.none _
      | refine LeO.ite ?_ ?_
      | refine LeO.bind ?_ (fun _ => ?_)
set_option maxHeartbeats 8000000 in
set_option maxRecDepth 100000 in
theorem horariumlaw09_made.calls (k : Nat) (A0 : Option Addr) (c0 : Nat) (l0 : List (S31)) (r : List (S28)) (w : World) (hr0 : Kd.C k31 w A0 l0.length l0) (hc0 : l0.length ≤ c0) (h : horariumlaw09_made.f k l0 = some r) :
    Calls Try.prog 21 #[.slice A0 l0.length c0] w fun e w' => ∃ v0_ : Value, e = .returned (v0_) ∧ Kd.R k28 28 w' w.heap.size (fun _ => True) v0_ r ∧ Below w.heap.size w w' := by
  have hu28 := Try.underlying28
  have HR0 := Aside0.mk hr0
  have HC0 := Aside0.mk hc0
  clear hr0 hc0
  have HB := Aside0.mk (Below.refl w.heap.size w)
  have H : (horariumlaw09_made.l0 k l0 ([] : List (S28)) 0) = some r := h
  clear h
  have H' := Aside0.mk H
  clear H
  go_enter Try.func21, Try.ntmps21
  go_wp2
  go_loopg [3, 4] k (fun kq v3 v4 w' => ∃ (x3_1 : List (S28)) (x4_1 : Int), v4 = .int .i64 x4_1 ∧ Aside0 (horariumlaw09_made.l0 kq l0 x3_1 x4_1 = some r) ∧ Aside0 (kq ≤ k) ∧ Aside0 (Kd.R k28 28 w' w.heap.size (fun _ => True) v3 x3_1) ∧ Aside0 (Below w.heap.size w w'))
  case atStart => exact ⟨(([] : List (S28))), (0), (by first | rfl | (simp; done) | (simp [*]; done)), H', ⟨Nat.le_refl _⟩, ⟨by first | exact Kd.R_nil _ _ _ _ _ | exact Kd.N_nil _ _ _ _ _ | exact Kd.V_nil _ _ _ _ _ | exact Kd.Q_nil _ _ _ _ _ | exact Kd.S_nil _ _ _ _ _⟩, ⟨by repeat (first | (with_reducible first | exact HB.out | apply below_alloc | apply pw_below_drewN | apply below_drew1) | exact HB.out)⟩⟩
  case round =>
    clear H'
    obtain ⟨x3_1, x4_1, rfl, HA, HK1, HO_3, HB⟩ := hrel
    cases gk with
    | zero => exact absurd HA.out (by simp [horariumlaw09_made.l0])
    | succ k1 =>
      have H := HA.out
      clear HA
      simp only [horariumlaw09_made.l0] at H
      by_cases c2 : x4_1 < (l0.length : Int)
      · rw [if_pos c2] at H
        have c2b0 : decide (x4_1 < (l0.length : Int)) = true := decide_eq_true c2
        clear c2
        by_cases c3 : x4_1 < 16
        · rw [if_pos c3] at H
          have c3b0 : decide (x4_1 < 16) = true := decide_eq_true c3
          clear c3
          by_cases c4 : 0 ≤ x4_1
          · rw [if_pos c4] at H
            have c4b0 : decide (0 ≤ x4_1) = true := decide_eq_true c4
            clear c4
            by_cases c5 : (wrap64 (1 + (Int.tmod (wrap64 ((Int.tmod ((rd_T31 l0 x4_1).f2) 24) + 24)) 24))) = 0
            · rw [if_pos c5] at H
              exact absurd H (by simp)
            · rw [if_neg c5] at H
              have c5b0 : ((wrap64 (1 + (Int.tmod (wrap64 ((Int.tmod ((rd_T31 l0 x4_1).f2) 24) + 24)) 24))) == 0) = false := beq_eq_false_iff_ne.mpr c5
              have c5b1 : ((wrap64 (1 + (Int.tmod (wrap64 ((Int.tmod ((rd_T31 l0 x4_1).f2) 24) + 24)) 24))) != 0) = true := bne_iff_ne.mpr c5
              by_cases c6 : (wrap64 (1 + (Int.tmod (wrap64 ((Int.tmod ((rd_T31 l0 x4_1).f1) (wrap64 (1 + (Int.tmod (wrap64 ((Int.tmod ((rd_T31 l0 x4_1).f2) 24) + 24)) 24)))) + (wrap64 (1 + (Int.tmod (wrap64 ((Int.tmod ((rd_T31 l0 x4_1).f2) 24) + 24)) 24))))) (wrap64 (1 + (Int.tmod (wrap64 ((Int.tmod ((rd_T31 l0 x4_1).f2) 24) + 24)) 24)))))) = 0
              · rw [if_pos c6] at H
                exact absurd H (by simp)
              · rw [if_neg c6] at H
                have c6b0 : ((wrap64 (1 + (Int.tmod (wrap64 ((Int.tmod ((rd_T31 l0 x4_1).f1) (wrap64 (1 + (Int.tmod (wrap64 ((Int.tmod ((rd_T31 l0 x4_1).f2) 24) + 24)) 24)))) + (wrap64 (1 + (Int.tmod (wrap64 ((Int.tmod ((rd_T31 l0 x4_1).f2) 24) + 24)) 24))))) (wrap64 (1 + (Int.tmod (wrap64 ((Int.tmod ((rd_T31 l0 x4_1).f2) 24) + 24)) 24)))))) == 0) = false := beq_eq_false_iff_ne.mpr c6
                have c6b1 : ((wrap64 (1 + (Int.tmod (wrap64 ((Int.tmod ((rd_T31 l0 x4_1).f1) (wrap64 (1 + (Int.tmod (wrap64 ((Int.tmod ((rd_T31 l0 x4_1).f2) 24) + 24)) 24)))) + (wrap64 (1 + (Int.tmod (wrap64 ((Int.tmod ((rd_T31 l0 x4_1).f2) 24) + 24)) 24))))) (wrap64 (1 + (Int.tmod (wrap64 ((Int.tmod ((rd_T31 l0 x4_1).f2) 24) + 24)) 24)))))) != 0) = true := bne_iff_ne.mpr c6
                by_cases c7 : x3_1.length < 3518437208883
                · rw [if_pos c7] at H
                  have LMc7 := Aside0.mk c7
                  clear c7
                  obtain ⟨y117, hy117⟩ : ∃ y_ : List (S28), y_ = (x3_1 ++ [(⟨x4_1, wrap64 (1 + (Int.tmod (wrap64 ((Int.tmod ((rd_T31 l0 x4_1).f0) (wrap64 (1 + (Int.tmod (wrap64 ((Int.tmod ((rd_T31 l0 x4_1).f1) (wrap64 (1 + (Int.tmod (wrap64 ((Int.tmod ((rd_T31 l0 x4_1).f2) 24) + 24)) 24)))) + (wrap64 (1 + (Int.tmod (wrap64 ((Int.tmod ((rd_T31 l0 x4_1).f2) 24) + 24)) 24))))) (wrap64 (1 + (Int.tmod (wrap64 ((Int.tmod ((rd_T31 l0 x4_1).f2) 24) + 24)) 24))))))) + (wrap64 (1 + (Int.tmod (wrap64 ((Int.tmod ((rd_T31 l0 x4_1).f1) (wrap64 (1 + (Int.tmod (wrap64 ((Int.tmod ((rd_T31 l0 x4_1).f2) 24) + 24)) 24)))) + (wrap64 (1 + (Int.tmod (wrap64 ((Int.tmod ((rd_T31 l0 x4_1).f2) 24) + 24)) 24))))) (wrap64 (1 + (Int.tmod (wrap64 ((Int.tmod ((rd_T31 l0 x4_1).f2) 24) + 24)) 24)))))))) (wrap64 (1 + (Int.tmod (wrap64 ((Int.tmod ((rd_T31 l0 x4_1).f1) (wrap64 (1 + (Int.tmod (wrap64 ((Int.tmod ((rd_T31 l0 x4_1).f2) 24) + 24)) 24)))) + (wrap64 (1 + (Int.tmod (wrap64 ((Int.tmod ((rd_T31 l0 x4_1).f2) 24) + 24)) 24))))) (wrap64 (1 + (Int.tmod (wrap64 ((Int.tmod ((rd_T31 l0 x4_1).f2) 24) + 24)) 24)))))))), wrap64 (1 + (Int.tmod (wrap64 ((Int.tmod ((rd_T31 l0 x4_1).f1) (wrap64 (1 + (Int.tmod (wrap64 ((Int.tmod ((rd_T31 l0 x4_1).f2) 24) + 24)) 24)))) + (wrap64 (1 + (Int.tmod (wrap64 ((Int.tmod ((rd_T31 l0 x4_1).f2) 24) + 24)) 24))))) (wrap64 (1 + (Int.tmod (wrap64 ((Int.tmod ((rd_T31 l0 x4_1).f2) 24) + 24)) 24))))), wrap64 (1 + (Int.tmod (wrap64 ((Int.tmod ((rd_T31 l0 x4_1).f2) 24) + 24)) 24)), 1⟩ : S28)]) := ⟨_, rfl⟩
                  replace H : (horariumlaw09_made.l0 k1 l0 y117 (wrap64 (x4_1 + 1))) = some r := by first | (rw [hy117]; with_reducible exact H) | (have H2_ := (Option.bind_some _ _).symm.trans H; rw [hy117]; with_reducible exact H2_) | (have H2_ := (Option.bind_some _ _).symm.trans H; with_reducible exact H2_) | with_reducible exact H | (rw [hy117]; exact H) | exact H
                  have Ny117 := Aside0.mk hy117
                  clear hy117
                  have H' := Aside0.mk H
                  clear H
                  have p114 : 0 ≤ (x4_1 : Int) := of_decide_eq_true (by first | (with_reducible assumption) | assumption)
                  have q114 : x4_1 < (l0.length : Int) := of_decide_eq_true (by first | (with_reducible assumption) | assumption)
                  obtain ⟨ad114, e114, hx114_0, hx114_1, hx114_2⟩ := at_T31 HR0.out x4_1 p114 q114
                  cases e114
                  replace hx114_0 := (HB.out.cell (World.block_lt_of_cell? w _ hx114_0)).trans hx114_0
                  replace hx114_1 := (HB.out.cell (World.block_lt_of_cell? w _ hx114_1)).trans hx114_1
                  replace hx114_2 := (HB.out.cell (World.block_lt_of_cell? w _ hx114_2)).trans hx114_2
                  replace p114 := eq_true p114
                  replace q114 := eq_true q114
                  have p115 : 0 ≤ (x4_1 : Int) := of_decide_eq_true (by first | (with_reducible assumption) | assumption)
                  have q115 : x4_1 < (l0.length : Int) := of_decide_eq_true (by first | (with_reducible assumption) | assumption)
                  obtain ⟨ad115, e115, hx115_0, hx115_1, hx115_2⟩ := at_T31 HR0.out x4_1 p115 q115
                  obtain rfl : ad114 = ad115 := (by injection e115)
                  replace hx115_0 := (HB.out.cell (World.block_lt_of_cell? w _ hx115_0)).trans hx115_0
                  replace hx115_1 := (HB.out.cell (World.block_lt_of_cell? w _ hx115_1)).trans hx115_1
                  replace hx115_2 := (HB.out.cell (World.block_lt_of_cell? w _ hx115_2)).trans hx115_2
                  replace p115 := eq_true p115
                  replace q115 := eq_true q115
                  have p116 : 0 ≤ (x4_1 : Int) := of_decide_eq_true (by first | (with_reducible assumption) | assumption)
                  have q116 : x4_1 < (l0.length : Int) := of_decide_eq_true (by first | (with_reducible assumption) | assumption)
                  obtain ⟨ad116, e116, hx116_0, hx116_1, hx116_2⟩ := at_T31 HR0.out x4_1 p116 q116
                  obtain rfl : ad114 = ad116 := (by injection e116)
                  replace hx116_0 := (HB.out.cell (World.block_lt_of_cell? w _ hx116_0)).trans hx116_0
                  replace hx116_1 := (HB.out.cell (World.block_lt_of_cell? w _ hx116_1)).trans hx116_1
                  replace hx116_2 := (HB.out.cell (World.block_lt_of_cell? w _ hx116_2)).trans hx116_2
                  replace p116 := eq_true p116
                  replace q116 := eq_true q116
                  go_wp2_with (first | ((with_reducible refine gate_builtin (b := .append) (xs := #[.tmp 38, .tmp 55]) rfl ?_); at_builtin; refine Kd.R_append k28 (w0 := w) w.heap.size rfl (.tmp 38) (.tmp 55) 24 28 (.agg #[(.int .i64 0), (.int .i64 0), (.int .i64 0), (.int .i64 0), (.int .i64 0)]) 40 rfl Try.underlying24 info28 rfl (by decide) (by omega) u3 x3_1 (⟨x4_1, wrap64 (1 + (Int.tmod (wrap64 ((Int.tmod ((rd_T31 l0 x4_1).f0) (wrap64 (1 + (Int.tmod (wrap64 ((Int.tmod ((rd_T31 l0 x4_1).f1) (wrap64 (1 + (Int.tmod (wrap64 ((Int.tmod ((rd_T31 l0 x4_1).f2) 24) + 24)) 24)))) + (wrap64 (1 + (Int.tmod (wrap64 ((Int.tmod ((rd_T31 l0 x4_1).f2) 24) + 24)) 24))))) (wrap64 (1 + (Int.tmod (wrap64 ((Int.tmod ((rd_T31 l0 x4_1).f2) 24) + 24)) 24))))))) + (wrap64 (1 + (Int.tmod (wrap64 ((Int.tmod ((rd_T31 l0 x4_1).f1) (wrap64 (1 + (Int.tmod (wrap64 ((Int.tmod ((rd_T31 l0 x4_1).f2) 24) + 24)) 24)))) + (wrap64 (1 + (Int.tmod (wrap64 ((Int.tmod ((rd_T31 l0 x4_1).f2) 24) + 24)) 24))))) (wrap64 (1 + (Int.tmod (wrap64 ((Int.tmod ((rd_T31 l0 x4_1).f2) 24) + 24)) 24)))))))) (wrap64 (1 + (Int.tmod (wrap64 ((Int.tmod ((rd_T31 l0 x4_1).f1) (wrap64 (1 + (Int.tmod (wrap64 ((Int.tmod ((rd_T31 l0 x4_1).f2) 24) + 24)) 24)))) + (wrap64 (1 + (Int.tmod (wrap64 ((Int.tmod ((rd_T31 l0 x4_1).f2) 24) + 24)) 24))))) (wrap64 (1 + (Int.tmod (wrap64 ((Int.tmod ((rd_T31 l0 x4_1).f2) 24) + 24)) 24)))))))), wrap64 (1 + (Int.tmod (wrap64 ((Int.tmod ((rd_T31 l0 x4_1).f1) (wrap64 (1 + (Int.tmod (wrap64 ((Int.tmod ((rd_T31 l0 x4_1).f2) 24) + 24)) 24)))) + (wrap64 (1 + (Int.tmod (wrap64 ((Int.tmod ((rd_T31 l0 x4_1).f2) 24) + 24)) 24))))) (wrap64 (1 + (Int.tmod (wrap64 ((Int.tmod ((rd_T31 l0 x4_1).f2) 24) + 24)) 24))))), wrap64 (1 + (Int.tmod (wrap64 ((Int.tmod ((rd_T31 l0 x4_1).f2) 24) + 24)) 24)), 1⟩ : S28) [.int .i64 x4_1, .int .i64 (wrap64 (1 + (Int.tmod (wrap64 ((Int.tmod ((rd_T31 l0 x4_1).f0) (wrap64 (1 + (Int.tmod (wrap64 ((Int.tmod ((rd_T31 l0 x4_1).f1) (wrap64 (1 + (Int.tmod (wrap64 ((Int.tmod ((rd_T31 l0 x4_1).f2) 24) + 24)) 24)))) + (wrap64 (1 + (Int.tmod (wrap64 ((Int.tmod ((rd_T31 l0 x4_1).f2) 24) + 24)) 24))))) (wrap64 (1 + (Int.tmod (wrap64 ((Int.tmod ((rd_T31 l0 x4_1).f2) 24) + 24)) 24))))))) + (wrap64 (1 + (Int.tmod (wrap64 ((Int.tmod ((rd_T31 l0 x4_1).f1) (wrap64 (1 + (Int.tmod (wrap64 ((Int.tmod ((rd_T31 l0 x4_1).f2) 24) + 24)) 24)))) + (wrap64 (1 + (Int.tmod (wrap64 ((Int.tmod ((rd_T31 l0 x4_1).f2) 24) + 24)) 24))))) (wrap64 (1 + (Int.tmod (wrap64 ((Int.tmod ((rd_T31 l0 x4_1).f2) 24) + 24)) 24)))))))) (wrap64 (1 + (Int.tmod (wrap64 ((Int.tmod ((rd_T31 l0 x4_1).f1) (wrap64 (1 + (Int.tmod (wrap64 ((Int.tmod ((rd_T31 l0 x4_1).f2) 24) + 24)) 24)))) + (wrap64 (1 + (Int.tmod (wrap64 ((Int.tmod ((rd_T31 l0 x4_1).f2) 24) + 24)) 24))))) (wrap64 (1 + (Int.tmod (wrap64 ((Int.tmod ((rd_T31 l0 x4_1).f2) 24) + 24)) 24))))))))), .int .i64 (wrap64 (1 + (Int.tmod (wrap64 ((Int.tmod ((rd_T31 l0 x4_1).f1) (wrap64 (1 + (Int.tmod (wrap64 ((Int.tmod ((rd_T31 l0 x4_1).f2) 24) + 24)) 24)))) + (wrap64 (1 + (Int.tmod (wrap64 ((Int.tmod ((rd_T31 l0 x4_1).f2) 24) + 24)) 24))))) (wrap64 (1 + (Int.tmod (wrap64 ((Int.tmod ((rd_T31 l0 x4_1).f2) 24) + 24)) 24)))))), .int .i64 (wrap64 (1 + (Int.tmod (wrap64 ((Int.tmod ((rd_T31 l0 x4_1).f2) 24) + 24)) 24))), .int .i64 1] (fun _ => True) (fun _ => False) rfl rfl ?aP (fun _ hk => hk.elim) ?aF ?aO ?aB ?aS ?aL ?_; (case aP => exact k28_mkM _ _ _ (⟨x4_1, wrap64 (1 + (Int.tmod (wrap64 ((Int.tmod ((rd_T31 l0 x4_1).f0) (wrap64 (1 + (Int.tmod (wrap64 ((Int.tmod ((rd_T31 l0 x4_1).f1) (wrap64 (1 + (Int.tmod (wrap64 ((Int.tmod ((rd_T31 l0 x4_1).f2) 24) + 24)) 24)))) + (wrap64 (1 + (Int.tmod (wrap64 ((Int.tmod ((rd_T31 l0 x4_1).f2) 24) + 24)) 24))))) (wrap64 (1 + (Int.tmod (wrap64 ((Int.tmod ((rd_T31 l0 x4_1).f2) 24) + 24)) 24))))))) + (wrap64 (1 + (Int.tmod (wrap64 ((Int.tmod ((rd_T31 l0 x4_1).f1) (wrap64 (1 + (Int.tmod (wrap64 ((Int.tmod ((rd_T31 l0 x4_1).f2) 24) + 24)) 24)))) + (wrap64 (1 + (Int.tmod (wrap64 ((Int.tmod ((rd_T31 l0 x4_1).f2) 24) + 24)) 24))))) (wrap64 (1 + (Int.tmod (wrap64 ((Int.tmod ((rd_T31 l0 x4_1).f2) 24) + 24)) 24)))))))) (wrap64 (1 + (Int.tmod (wrap64 ((Int.tmod ((rd_T31 l0 x4_1).f1) (wrap64 (1 + (Int.tmod (wrap64 ((Int.tmod ((rd_T31 l0 x4_1).f2) 24) + 24)) 24)))) + (wrap64 (1 + (Int.tmod (wrap64 ((Int.tmod ((rd_T31 l0 x4_1).f2) 24) + 24)) 24))))) (wrap64 (1 + (Int.tmod (wrap64 ((Int.tmod ((rd_T31 l0 x4_1).f2) 24) + 24)) 24)))))))), wrap64 (1 + (Int.tmod (wrap64 ((Int.tmod ((rd_T31 l0 x4_1).f1) (wrap64 (1 + (Int.tmod (wrap64 ((Int.tmod ((rd_T31 l0 x4_1).f2) 24) + 24)) 24)))) + (wrap64 (1 + (Int.tmod (wrap64 ((Int.tmod ((rd_T31 l0 x4_1).f2) 24) + 24)) 24))))) (wrap64 (1 + (Int.tmod (wrap64 ((Int.tmod ((rd_T31 l0 x4_1).f2) 24) + 24)) 24))))), wrap64 (1 + (Int.tmod (wrap64 ((Int.tmod ((rd_T31 l0 x4_1).f2) 24) + 24)) 24)), 1⟩ : S28)); (case aB => exact (by repeat (first | (with_reducible first | exact HB.out | apply below_alloc | apply pw_below_drewN | apply below_drew1) | exact HB.out))); (case aF => exact (fun _ _ => trivial)); (case aO => exact (by (with_reducible repeat (first | apply Kd.R_alloc | apply Kd.R_drewN | apply Kd.R_drew)); exact HO_3.out)); (case aS => exact (below_size (by repeat (first | (with_reducible first | exact HB.out | apply below_alloc | apply pw_below_drewN | apply below_drew1) | exact HB.out)))); (case aL => have := LMc7.out; omega); intro v118 w8 ho hb hg hat; rw [← Ny117.out] at ho; have n0_ := Aside0.mk (hb); have n1_ := Aside0.mk (ho); clear HB; clear HO_3; have HB := n0_; have HO119 := n1_; clear n0_ n1_; clear ho hb hg hat))
                  go_roundg k1
                  case measure => have := HK1.out; omega
                  case rel => exact ⟨(y117), (wrap64 (x4_1 + 1)), (by first | rfl | (simp; done) | (simp [*]; done)), H', ⟨by have := HK1.out; omega⟩, ⟨by (with_reducible repeat (first | apply Kd.R_alloc | apply Kd.R_drewN | apply Kd.R_drew)); exact HO119.out⟩, ⟨by repeat (first | (with_reducible first | exact HB.out | apply below_alloc | apply pw_below_drewN | apply below_drew1) | exact HB.out)⟩⟩
                · rw [if_neg c7] at H
                  exact absurd H (by simp)
          · rw [if_neg c4] at H
            exact absurd H (by simp)
        · rw [if_neg c3] at H
          have c3b0 : decide (x4_1 < 16) = false := decide_eq_false c3
          clear c3
          obtain rfl := Option.some.inj H
          go_wp2
          go_ret
          exact ⟨_, by first | rfl | (simp [errW_none, errW_some] <;> rfl) | (simp [*, errW_none, errW_some] <;> rfl), by (with_reducible repeat (first | apply Kd.R_alloc | apply Kd.R_drewN | apply Kd.R_drew)); exact HO_3.out, by repeat (first | (with_reducible first | exact HB.out | apply below_alloc | apply pw_below_drewN | apply below_drew1) | exact HB.out)⟩
      · rw [if_neg c2] at H
        have c2b0 : decide (x4_1 < (l0.length : Int)) = false := decide_eq_false c2
        clear c2
        obtain rfl := Option.some.inj H
        go_wp2
        go_ret
        exact ⟨_, by first | rfl | (simp [errW_none, errW_some] <;> rfl) | (simp [*, errW_none, errW_some] <;> rfl), by (with_reducible repeat (first | apply Kd.R_alloc | apply Kd.R_drewN | apply Kd.R_drew)); exact HO_3.out, by repeat (first | (with_reducible first | exact HB.out | apply below_alloc | apply pw_below_drewN | apply below_drew1) | exact HB.out)⟩

/-! ### param_Over: function 24 -/
def param_Over.f (k : Nat) (l0 : List (S28)) : Option (Bool × Int) := (param_Load.f k l0).bind fun bt120 => (some (decide (bt120.1 > bt120.2.1), bt120.2.2))
theorem param_Over.mono : ∀ a0 k, LeO (param_Over.f k a0) (param_Over.f (k + 1) a0) := by
  intro a0 k
  unfold param_Over.f
  repeat' first
      | (with_reducible exact param_Load.mono _ _)
      | (with_reducible exact LeO.refl _)
      | (with_reducible exact LeO.none _)
      | (with_reducible refine LeO.ite ?_ ?_)
      | (with_reducible refine LeO.bind ?_ (fun _ => ?_))
      | exact param_Load.mono _ _
      | exact LeO.none _
      | refine LeO.ite ?_ ?_
      | refine LeO.bind ?_ (fun _ => ?_)
set_option maxHeartbeats 8000000 in
set_option maxRecDepth 100000 in
theorem param_Over.calls (k : Nat) (A0 : Option Addr) (c0 : Nat) (l0 : List (S28)) (r1 : Bool) (r2 : Int) (w : World) (hr0 : Kd.C k28 w A0 l0.length l0) (hc0 : l0.length ≤ c0) (h : param_Over.f k l0 = some (r1, r2)) :
    Calls Try.prog 24 #[.slice A0 l0.length c0] w fun e w' => e = .returned (.tuple #[.bool r1, .int .i64 r2]) ∧ Below w.heap.size w w' := by
  have HR0 := Aside0.mk hr0
  have HC0 := Aside0.mk hc0
  clear hr0 hc0
  have HB := Aside0.mk (Below.refl w.heap.size w)
  have H : ((param_Load.f k l0).bind fun bt120 => (some (decide (bt120.1 > bt120.2.1), bt120.2.2))) = some (r1, r2) := h
  clear h
  replace H := Option.bind_eq_some_iff.mp H
  obtain ⟨⟨t120, t121, t122⟩, A20, H⟩ := H
  replace H : (some (decide (t120 > t121), t122)) = some (r1, r2) := H
  have A2 := Aside0.mk A20
  clear A20
  simp only [Option.some.injEq, Prod.mk.injEq] at H
  obtain ⟨rfl, rfl⟩ := H
  go_enter Try.func24, Try.ntmps24
  go_wp2_with (first | ((with_reducible refine gate_callee (f := 23) rfl ?_); refine goesL_ (some 9) rfl rfl Try.func23 (by kernel_rfl) rfl #[.slice A0 l0.length c0] rfl (by (try simp only [List.map_toArray, List.map_cons, List.map_nil]); first | done | rfl | (simp only [List.length_drop, List.length_take]; rfl)) ?_; (with_reducible refine (param_Load.calls k _ _ l0 t120 t121 t122 _ ?side1 ?side2 A2.out).mono ?_); (case side1 => repeat (first | exact HR0.out | (with_reducible refine Kd.C_alloc ?_ _) | (with_reducible refine Kd.C_drewN ?_ _) | (with_reducible refine Kd.C_drew ?_))); (case side2 => exact HC0.out); rintro e w3 ⟨rfl, hb⟩; refine ⟨_, rfl, ?_⟩; have n0_ := Aside0.mk (below_step (by repeat (first | (with_reducible first | exact HB.out | apply below_alloc | apply pw_below_drewN | apply below_drew1) | exact HB.out)) hb); clear HB; have HB := n0_; clear n0_; (try clear hb); (try clear hb2); (try clear hk); (try clear hi)))
  go_ret2
  exact ⟨by first | rfl | (simp [errW_none, errW_some] <;> rfl) | (simp [*, errW_none, errW_some] <;> rfl), by repeat (first | (with_reducible first | exact HB.out | apply below_alloc | apply pw_below_drewN | apply below_drew1) | exact HB.out)⟩

end Go.Proofs.Ytaifojmlbbaabaa.PParamLoad
