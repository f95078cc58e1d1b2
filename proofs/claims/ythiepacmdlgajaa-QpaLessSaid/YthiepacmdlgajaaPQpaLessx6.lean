-- Made by px.py (a program of this session, over the kit's printer) out of the translation. Not trusted: Lean checks it.
import Derived.Test.YthiepacmdlgajaaPQpaLessx0
import Derived.Test.YthiepacmdlgajaaPQpaLessx4
import Derived.Test.YthiepacmdlgajaaPQpaLessx5
namespace Go.Proofs.Ythiepacmdlgajaa.PQpaLess
open Go.RowKit Go.Proofs.YthiepacmdlgajaaW.PrintWords Go.Proofs.YthiepacmdlgajaaW.PrintLast Go.Proofs.YthiepacmdlgajaaW.PrintMore
attribute [local go_sem] max2_int min2_int max_two min_two max_three min_three max_four min_four   -- for this text's walks alone
set_option linter.unusedVariables false
set_option linter.unusedSimpArgs false

/-! ### horariumlaw12_QpaLess: function 9 -/
mutual
def horariumlaw12_QpaLess.j0 : Nat → Int → Int → Bool → List (S28) → Option (Bool)
  | 0, _, _, _, _ => none
  | k + 1, x1, x2, x7, x8 => if (x8.length : Int) = 0 then (horariumlaw12_QpaLess.j1 k x1 x2 x7 x8 true) else ((qpa_Test.f k x8).bind fun t152 => (horariumlaw12_QpaLess.j1 k x1 x2 x7 x8 (t152 != 0)))
def horariumlaw12_QpaLess.j1 : Nat → Int → Int → Bool → List (S28) → Bool → Option (Bool)
  | 0, _, _, _, _, _ => none
  | k + 1, x1, x2, x7, x8, x26 => if x26 = true then (some x7) else (if (x8.length : Int) = 0 then (none) else ((some (([] : List (S28)) : List (S28))).bind fun y153 => (if y153.length + x8.length < 3518437208883 then ((some (y153 ++ x8 : List (S28))).bind fun y156 => (if (Go.bits .and .i64 x2 3) = 0 then (if 0 ≤ (Int.tmod (wrap64 ((Int.tmod x1 (x8.length : Int)) + (x8.length : Int))) (x8.length : Int)) then (if (Int.tmod (wrap64 ((Int.tmod x1 (x8.length : Int)) + (x8.length : Int))) (x8.length : Int)) ≤ (y156.length : Int) then (if 0 ≤ (wrap64 ((Int.tmod (wrap64 ((Int.tmod x1 (x8.length : Int)) + (x8.length : Int))) (x8.length : Int)) + 1)) then (if (wrap64 ((Int.tmod (wrap64 ((Int.tmod x1 (x8.length : Int)) + (x8.length : Int))) (x8.length : Int)) + 1)) ≤ (y156.length : Int) then (if x7 = true then ((qpa_Test.f k (y156.eraseIdx ((Int.tmod (wrap64 ((Int.tmod x1 (x8.length : Int)) + (x8.length : Int))) (x8.length : Int)) : Int).toNat)).bind fun t170 => (some (t170 == 0))) else (some false)) else (none)) else (none)) else (none)) else (none)) else (if (Go.bits .and .i64 x2 3) = 1 then (if 0 ≤ (Int.tmod (wrap64 ((Int.tmod x1 (x8.length : Int)) + (x8.length : Int))) (x8.length : Int)) then (if (Int.tmod (wrap64 ((Int.tmod x1 (x8.length : Int)) + (x8.length : Int))) (x8.length : Int)) < (y156.length : Int) then (if ((rd_T28 y156 (Int.tmod (wrap64 ((Int.tmod x1 (x8.length : Int)) + (x8.length : Int))) (x8.length : Int))).f1) > 1 then (if x7 = true then ((qpa_Test.f k (y156.set ((Int.tmod (wrap64 ((Int.tmod x1 (x8.length : Int)) + (x8.length : Int))) (x8.length : Int)) : Int).toNat (⟨(rd_T28 y156 (Int.tmod (wrap64 ((Int.tmod x1 (x8.length : Int)) + (x8.length : Int))) (x8.length : Int))).f0, wrap64 (((rd_T28 y156 (Int.tmod (wrap64 ((Int.tmod x1 (x8.length : Int)) + (x8.length : Int))) (x8.length : Int))).f1) - 1), (rd_T28 y156 (Int.tmod (wrap64 ((Int.tmod x1 (x8.length : Int)) + (x8.length : Int))) (x8.length : Int))).f2, (rd_T28 y156 (Int.tmod (wrap64 ((Int.tmod x1 (x8.length : Int)) + (x8.length : Int))) (x8.length : Int))).f3, (rd_T28 y156 (Int.tmod (wrap64 ((Int.tmod x1 (x8.length : Int)) + (x8.length : Int))) (x8.length : Int))).f4⟩ : S28))).bind fun t174 => (some (t174 == 0))) else (some false)) else (if x7 = true then ((qpa_Test.f k y156).bind fun t175 => (some (t175 == 0))) else (some false))) else (none)) else (none)) else (if (Go.bits .and .i64 x2 3) = 2 then (if 0 ≤ (Int.tmod (wrap64 ((Int.tmod x1 (x8.length : Int)) + (x8.length : Int))) (x8.length : Int)) then (if (Int.tmod (wrap64 ((Int.tmod x1 (x8.length : Int)) + (x8.length : Int))) (x8.length : Int)) < (y156.length : Int) then (if ((rd_T28 y156 (Int.tmod (wrap64 ((Int.tmod x1 (x8.length : Int)) + (x8.length : Int))) (x8.length : Int))).f2) < ((rd_T28 y156 (Int.tmod (wrap64 ((Int.tmod x1 (x8.length : Int)) + (x8.length : Int))) (x8.length : Int))).f3) then (if x7 = true then ((qpa_Test.f k (y156.set ((Int.tmod (wrap64 ((Int.tmod x1 (x8.length : Int)) + (x8.length : Int))) (x8.length : Int)) : Int).toNat (⟨(rd_T28 y156 (Int.tmod (wrap64 ((Int.tmod x1 (x8.length : Int)) + (x8.length : Int))) (x8.length : Int))).f0, (rd_T28 y156 (Int.tmod (wrap64 ((Int.tmod x1 (x8.length : Int)) + (x8.length : Int))) (x8.length : Int))).f1, wrap64 (((rd_T28 y156 (Int.tmod (wrap64 ((Int.tmod x1 (x8.length : Int)) + (x8.length : Int))) (x8.length : Int))).f2) + 1), (rd_T28 y156 (Int.tmod (wrap64 ((Int.tmod x1 (x8.length : Int)) + (x8.length : Int))) (x8.length : Int))).f3, (rd_T28 y156 (Int.tmod (wrap64 ((Int.tmod x1 (x8.length : Int)) + (x8.length : Int))) (x8.length : Int))).f4⟩ : S28))).bind fun t180 => (some (t180 == 0))) else (some false)) else (if x7 = true then ((qpa_Test.f k y156).bind fun t181 => (some (t181 == 0))) else (some false))) else (none)) else (none)) else (if (Go.bits .and .i64 x2 3) = 3 then (if 0 ≤ (Int.tmod (wrap64 ((Int.tmod x1 (x8.length : Int)) + (x8.length : Int))) (x8.length : Int)) then (if (Int.tmod (wrap64 ((Int.tmod x1 (x8.length : Int)) + (x8.length : Int))) (x8.length : Int)) < (y156.length : Int) then (if x7 = true then ((qpa_Test.f k (y156.set ((Int.tmod (wrap64 ((Int.tmod x1 (x8.length : Int)) + (x8.length : Int))) (x8.length : Int)) : Int).toNat (⟨(rd_T28 y156 (Int.tmod (wrap64 ((Int.tmod x1 (x8.length : Int)) + (x8.length : Int))) (x8.length : Int))).f0, (rd_T28 y156 (Int.tmod (wrap64 ((Int.tmod x1 (x8.length : Int)) + (x8.length : Int))) (x8.length : Int))).f1, (rd_T28 y156 (Int.tmod (wrap64 ((Int.tmod x1 (x8.length : Int)) + (x8.length : Int))) (x8.length : Int))).f2, wrap64 (2 * ((rd_T28 y156 (Int.tmod (wrap64 ((Int.tmod x1 (x8.length : Int)) + (x8.length : Int))) (x8.length : Int))).f3)), (rd_T28 y156 (Int.tmod (wrap64 ((Int.tmod x1 (x8.length : Int)) + (x8.length : Int))) (x8.length : Int))).f4⟩ : S28))).bind fun t184 => (some (t184 == 0))) else (some false)) else (none)) else (none)) else (if x7 = true then ((qpa_Test.f k y156).bind fun t185 => (some (t185 == 0))) else (some false))))))) else (none))))
end
def horariumlaw12_QpaLess.f (k : Nat) (l0 : List (S31)) (a1 : Int) (a2 : Int) : Option (Bool) := (horariumlaw12_awake.f k).bind fun t145 => ((horariumlaw12_made.f k l0).bind fun t146 => (if (t146.length : Int) > 6 then (if 6 ≤ (t146.length : Int) then (horariumlaw12_QpaLess.j0 k a1 a2 t145 (t146.take (6 : Int).toNat)) else (none)) else (horariumlaw12_QpaLess.j0 k a1 a2 t145 t146)))
theorem horariumlaw12_QpaLess.mono_l : ∀ k, (∀ y0 y1 y2 y3, LeO (horariumlaw12_QpaLess.j0 k y0 y1 y2 y3) (horariumlaw12_QpaLess.j0 (k + 1) y0 y1 y2 y3)) ∧ (∀ y0 y1 y2 y3 y4, LeO (horariumlaw12_QpaLess.j1 k y0 y1 y2 y3 y4) (horariumlaw12_QpaLess.j1 (k + 1) y0 y1 y2 y3 y4))
  | 0 => ⟨fun _ _ _ _ r h => by simp [horariumlaw12_QpaLess.j0] at h, fun _ _ _ _ _ r h => by simp [horariumlaw12_QpaLess.j1] at h⟩
  | k + 1 => by
    obtain ⟨ih0, ih1⟩ := horariumlaw12_QpaLess.mono_l k
    refine ⟨?_, ?_⟩
    · intro y0 y1 y2 y3
      unfold horariumlaw12_QpaLess.j0
      repeat' first
      | (with_reducible exact ih0 _ _ _ _)
      | (with_reducible exact ih1 _ _ _ _ _)
      | (with_reducible exact horariumlaw12_awake.mono _)
      | (with_reducible exact horariumlaw12_made.mono _ _)
      | (with_reducible exact qpa_Test.mono _ _)
      | (with_reducible exact LeO.refl _)
      | (with_reducible exact LeO.none _)
      | (with_reducible refine LeO.ite ?_ ?_)
      | (with_reducible refine LeO.bind ?_ (fun _ => ?_))
      | exact ih0 _ _ _ _
      | exact ih1 _ _ _ _ _
      | exact horariumlaw12_awake.mono _
      | exact horariumlaw12_made.mono _ _
      | exact qpa_Test.mono _ _
      | exact LeO.none _
      | refine LeO.ite ?_ ?_
      | refine LeO.bind ?_ (fun _ => ?_)
    · intro y0 y1 y2 y3 y4
      unfold horariumlaw12_QpaLess.j1
      repeat' first
      | (with_reducible exact ih0 _ _ _ _)
      | (with_reducible exact ih1 _ _ _ _ _)
      | (with_reducible exact horariumlaw12_awake.mono _)
      | (with_reducible exact horariumlaw12_made.mono _ _)
      | (with_reducible exact qpa_Test.mono _ _)
      | (with_reducible exact LeO.refl _)
      | (with_reducible exact LeO.none _)
      | (with_reducible refine LeO.ite ?_ ?_)
      | (with_reducible refine LeO.bind ?_ (fun _ => ?_))
      | exact ih0 _ _ _ _
      | exact ih1 _ _ _ _ _
      | exact horariumlaw12_awake.mono _
      | exact horariumlaw12_made.mono _ _
      | exact qpa_Test.mono _ _
      | exact LeO.none _
      | refine LeO.ite ?_ ?_
      | refine LeO.bind ?_ (fun _ => ?_)
theorem horariumlaw12_QpaLess.mono : ∀ a0 a1 a2 k, LeO (horariumlaw12_QpaLess.f k a0 a1 a2) (horariumlaw12_QpaLess.f (k + 1) a0 a1 a2) := by
  intro a0 a1 a2 k
  obtain ⟨ih0, ih1⟩ := horariumlaw12_QpaLess.mono_l k
  unfold horariumlaw12_QpaLess.f
  repeat' first
      | (with_reducible exact ih0 _ _ _ _)
      | (with_reducible exact ih1 _ _ _ _ _)
      | (with_reducible exact horariumlaw12_awake.mono _)
      | (with_reducible exact horariumlaw12_made.mono _ _)
      | (with_reducible exact qpa_Test.mono _ _)
      | (with_reducible exact LeO.refl _)
      | (with_reducible exact LeO.none _)
      | (with_reducible refine LeO.ite ?_ ?_)
      | (with_reducible refine LeO.bind ?_ (fun _ => ?_))
      | exact ih0 _ _ _ _
      | exact ih1 _ _ _ _ _
      | exact horariumlaw12_awake.mono _
      | exact horariumlaw12_made.mono _ _
      | exact qpa_Test.mono _ _
      | exact LeO.none _
      | refine LeO.ite ?_ ?_
      | refine LeO.bind ?_ (fun _ => ?_)
def horariumlaw12_QpaLess.T11 : Bool × List (List Nat × List Nat) := (true, [([], []), ([], []), ([0, 1], [0, 1]), ([], []), ([], []), ([4], [4]), ([3, 5], [3, 5]), ([2, 6], [2, 6]), ([7, 7, 0, 1, 2, 3, 4, 5, 6, 7], [0, 3, 7])])
def horariumlaw12_QpaLess.B11 : List Nat := [0, 0, 3, 0, 0, 16, 56, 127, 255]
theorem horariumlaw12_QpaLess.tab11 : rtab .any (opsOf Try.f9 11) = horariumlaw12_QpaLess.T11 := by kernel_rfl
theorem horariumlaw12_QpaLess.bits11 : waitsOk horariumlaw12_QpaLess.T11.2 horariumlaw12_QpaLess.B11 = true := by kernel_rfl
def horariumlaw12_QpaLess.T16 : Bool × List (List Nat × List Nat) := (true, [([], []), ([], []), ([0, 1], [0, 1]), ([2], [2]), ([3], [3]), ([], []), ([], []), ([5, 6], [5, 6]), ([7], [7]), ([8], [8]), ([4, 9], [4, 9])])
def horariumlaw12_QpaLess.B16 : List Nat := [0, 0, 3, 7, 15, 0, 0, 96, 224, 480, 1023]
theorem horariumlaw12_QpaLess.tab16 : rtab .any (opsOf Try.f9 16) = horariumlaw12_QpaLess.T16 := by kernel_rfl
theorem horariumlaw12_QpaLess.bits16 : waitsOk horariumlaw12_QpaLess.T16.2 horariumlaw12_QpaLess.B16 = true := by kernel_rfl
set_option maxHeartbeats 8000000 in
set_option maxRecDepth 100000 in
theorem horariumlaw12_QpaLess.calls (k : Nat) (A0 : Option Addr) (c0 : Nat) (l0 : List (S31)) (a1 : Int) (a2 : Int) (r : Bool) (w : World) (hr0 : Kd.C k31 w A0 l0.length l0) (hc0 : l0.length ≤ c0) (h : horariumlaw12_QpaLess.f k l0 a1 a2 = some r) :
    Calls Try.prog 9 #[.slice A0 l0.length c0, .int .i64 a1, .int .i64 a2] w fun e w' => e = .returned (.bool r) ∧ Below w.heap.size w w' := by
  have HR0 := Aside0.mk hr0
  have HC0 := Aside0.mk hc0
  clear hr0 hc0
  have HB := Aside0.mk (Below.refl w.heap.size w)
  have H : ((horariumlaw12_awake.f k).bind fun t145 => ((horariumlaw12_made.f k l0).bind fun t146 => (if (t146.length : Int) > 6 then (if 6 ≤ (t146.length : Int) then (horariumlaw12_QpaLess.j0 k a1 a2 t145 (t146.take (6 : Int).toNat)) else (none)) else (horariumlaw12_QpaLess.j0 k a1 a2 t145 t146)))) = some r := h
  clear h
  replace H := Option.bind_eq_some_iff.mp H
  obtain ⟨t145, A40, H⟩ := H
  replace H : ((horariumlaw12_made.f k l0).bind fun t146 => (if (t146.length : Int) > 6 then (if 6 ≤ (t146.length : Int) then (horariumlaw12_QpaLess.j0 k a1 a2 t145 (t146.take (6 : Int).toNat)) else (none)) else (horariumlaw12_QpaLess.j0 k a1 a2 t145 t146))) = some r := H
  have A4 := Aside0.mk A40
  clear A40
  replace H := Option.bind_eq_some_iff.mp H
  obtain ⟨t146, A50, H⟩ := H
  replace H : (if (t146.length : Int) > 6 then (if 6 ≤ (t146.length : Int) then (horariumlaw12_QpaLess.j0 k a1 a2 t145 (t146.take (6 : Int).toNat)) else (none)) else (horariumlaw12_QpaLess.j0 k a1 a2 t145 t146)) = some r := H
  have A5 := Aside0.mk A50
  clear A50
  have HC6 := Aside0.mk H
  clear H
  go_enter Try.func9, Try.ntmps9
  go_upto_if 16 with (first | ((with_reducible refine gate_callee (f := 27) rfl ?_); refine goesL_ (some 11) rfl rfl Try.func27 (by kernel_rfl) rfl #[] rfl (by (try simp only [List.map_toArray, List.map_cons, List.map_nil]); first | done | rfl | (simp only [List.length_drop, List.length_take]; rfl)) ?_; (with_reducible refine (horariumlaw12_awake.calls k  t145 _ A4.out).mono ?_); rintro e w7 ⟨rfl, hb⟩; refine ⟨_, rfl, ?_⟩; have n0_ := Aside0.mk (below_step (by repeat (first | (with_reducible first | exact HB.out | apply below_alloc | apply pw_below_drewN | apply below_drew1) | exact HB.out)) hb); clear HB; have HB := n0_; clear n0_; (try clear hb); (try clear hb2); (try clear hk); (try clear hi)) | ((with_reducible refine gate_callee (f := 28) rfl ?_); refine goesL_ (some 13) rfl rfl Try.func28 (by kernel_rfl) rfl #[.slice A0 l0.length c0] rfl (by (try simp only [List.map_toArray, List.map_cons, List.map_nil]); first | done | rfl | (simp only [List.length_drop, List.length_take]; rfl)) ?_; (with_reducible refine (horariumlaw12_made.calls k _ _ l0 t146 _ ?side1 ?side2 A5.out).mono ?_); (case side1 => repeat (first | exact (Kd.C_below HR0.out HB.out) | (with_reducible refine Kd.C_alloc ?_ _) | (with_reducible refine Kd.C_drewN ?_ _) | (with_reducible refine Kd.C_drew ?_))); (case side2 => exact HC0.out); rintro e w8 ⟨v147, rfl, ho0, hb⟩; refine ⟨_, rfl, ?_⟩; have n0_ := Aside0.mk (Kd.R_lower ho0 (below_size (by repeat (first | (with_reducible first | exact HB.out | apply below_alloc | apply pw_below_drewN | apply below_drew1) | exact HB.out)))); have n1_ := Aside0.mk (below_step (by repeat (first | (with_reducible first | exact HB.out | apply below_alloc | apply pw_below_drewN | apply below_drew1) | exact HB.out)) hb); clear HB; have HO148 := n0_; have HB := n1_; clear n0_ n1_; (try clear hb); (try clear hb2); (try clear hk); (try clear hi); (try clear ho0); obtain ⟨Ao9, co9, eo9⟩ := Kd.R_slice HO148.out; subst eo9))
  (try simp only [Act.put, List.setIfInBounds_toArray, List.set_cons_zero, List.set_cons_succ])
  go_cut [8] (fun v8 wc => ∃ (kq : Nat) (x8_5 : List (S28)), Aside0 (horariumlaw12_QpaLess.j0 kq a1 a2 t145 x8_5 = some r) ∧ Aside0 (kq ≤ k) ∧ Aside0 (Kd.R k28 28 wc w.heap.size (fun _ => True) v8 x8_5) ∧ Aside0 (Below w.heap.size w wc))
  case first =>
    have H := HC6.out
    clear HC6
    by_cases c10 : (t146.length : Int) > 6
    · rw [if_pos c10] at H
      have c10b0 : decide (6 < (t146.length : Int)) = true := decide_eq_true c10
      have c10b1 : decide (6 < t146.length) = true := decide_eq_true (by omega)
      clear c10
      (first | rw [c10b0] | (simp only [i64_w, i32_w]; rw [c10b0]) | skip)
      by_cases c11 : 6 ≤ (t146.length : Int)
      · rw [if_pos c11] at H
        have c11b0 := eq_true c11
        have c11b1 : decide (6 ≤ (t146.length : Int)) = true := decide_eq_true c11
        clear c11
        obtain ⟨y149, hy149⟩ : ∃ y_ : List (S28), y_ = (t146.take (6 : Int).toNat) := ⟨_, rfl⟩
        replace H : (horariumlaw12_QpaLess.j0 k a1 a2 t145 y149) = some r := by first | (rw [hy149]; with_reducible exact H) | (have H2_ := (Option.bind_some _ _).symm.trans H; rw [hy149]; with_reducible exact H2_) | (have H2_ := (Option.bind_some _ _).symm.trans H; with_reducible exact H2_) | with_reducible exact H | (rw [hy149]; exact H) | exact H
        have Ny149 := Aside0.mk hy149
        clear hy149
        have H' := Aside0.mk H
        clear H
        have q12 : (6 : Int) ≤ ((t146.length : Int) : Int) := of_decide_eq_true (by first | (with_reducible assumption) | assumption)
        obtain ⟨i012, hi012, _, hsz12, _⟩ := info_parts info28
        have hcut12 := cut_to (P := Try.prog) 24 28 .i64 Try.underlying24 hi012 Ao9 t146.length co9 6 (by omega) q12 (Kd.R_reads' HO148.out).2.1
        have hr12 := Kd.R_take (m := (6 : Int).toNat) HO148.out (by omega)
        have hy12 : y149.length = (6 : Int).toNat := (by rw [Ny149.out, List.length_take]; omega)
        rw [← Ny149.out] at hr12
        rw [← hy12] at hr12 hcut12
        clear hy12 hi012 hsz12 HO148
        have HO151 := Aside0.mk hr12
        clear hr12
        replace q12 := eq_true q12
        go_wp2
        go_meet
        case rel => exact ⟨_, (y149), H', ⟨by first | omega | exact Nat.le_refl _⟩, ⟨by (with_reducible repeat (first | apply Kd.R_alloc | apply Kd.R_drewN | apply Kd.R_drew)); exact HO151.out⟩, ⟨by repeat (first | (with_reducible first | exact HB.out | apply below_alloc | apply pw_below_drewN | apply below_drew1) | exact HB.out)⟩⟩
      · rw [if_neg c11] at H
        exact absurd H (by simp)
    · rw [if_neg c10] at H
      have c10b0 : decide (6 < (t146.length : Int)) = false := decide_eq_false c10
      have c10b1 : decide (6 < t146.length) = false := decide_eq_false (by omega)
      clear c10
      (first | rw [c10b0] | (simp only [i64_w, i32_w]; rw [c10b0]) | skip)
      have H' := Aside0.mk H
      clear H
      go_wp2
      go_meet
      case rel => exact ⟨_, (t146), H', ⟨by first | omega | exact Nat.le_refl _⟩, ⟨by (with_reducible repeat (first | apply Kd.R_alloc | apply Kd.R_drewN | apply Kd.R_drew)); exact HO148.out⟩, ⟨by repeat (first | (with_reducible first | exact HB.out | apply below_alloc | apply pw_below_drewN | apply below_drew1) | exact HB.out)⟩⟩
  case rest =>
    clear HC6
    try clear c1
    try clear q1
    try clear c2
    try clear p2
    try clear c9
    try clear c10
    try clear c10b0
    try clear c10b1
    try clear c11
    try clear c11b0
    try clear c11b1
    try clear q12
    try clear q12
    obtain ⟨kq, x8_5, HA, HJ5, HO_8, HB⟩ := hcut
    cases kq with
    | zero => exact absurd HA.out (by simp [horariumlaw12_QpaLess.j0])
    | succ kj5 =>
      have H := HA.out
      clear HA
      simp only [horariumlaw12_QpaLess.j0] at H
      have HC13 := Aside0.mk H
      clear H
      go_upto_region 5 with (fail)
      go_cut [26] (fun v26 wc => ∃ (kq : Nat) (x26_12 : Bool), v26 = .bool x26_12 ∧ Aside0 (horariumlaw12_QpaLess.j1 kq a1 a2 t145 x8_5 x26_12 = some r) ∧ Aside0 (kq ≤ kj5) ∧ Aside0 (Kd.R k28 28 wc w.heap.size (fun _ => True) u8 x8_5) ∧ Aside0 (Below w.heap.size w wc))
      case first =>
        have H := HC13.out
        clear HC13
        by_cases c14 : (x8_5.length : Int) = 0
        · rw [if_pos c14] at H
          have c14b0 : ((x8_5.length : Int) == 0) = true := beq_iff_eq.mpr c14
          have c14b1 : ((x8_5.length : Int) != 0) = false := bne_eq_false_iff_eq.mpr c14
          clear c14
          (first | rw [c14b0] | (simp only [i64_w, i32_w]; rw [c14b0]) | skip)
          have H' := Aside0.mk H
          clear H
          obtain ⟨Ao15, co15, eo15⟩ := Kd.R_slice HO_8.out
          subst eo15
          go_wp2
          go_meet
          case rel => exact ⟨_, (true), (by first | rfl | (simp; done) | (simp [*]; done)), H', ⟨by have := HJ5.out; first | omega | exact Nat.le_refl _⟩, ⟨by (with_reducible repeat (first | apply Kd.R_alloc | apply Kd.R_drewN | apply Kd.R_drew)); exact HO_8.out⟩, ⟨by repeat (first | (with_reducible first | exact HB.out | apply below_alloc | apply pw_below_drewN | apply below_drew1) | exact HB.out)⟩⟩
        · rw [if_neg c14] at H
          have c14b0 : ((x8_5.length : Int) == 0) = false := beq_eq_false_iff_ne.mpr c14
          have c14b1 : ((x8_5.length : Int) != 0) = true := bne_iff_ne.mpr c14
          have c14b2 : ¬ (x8_5 = []) := fun h_ => c14 (by rw [h_]; rfl)
          (first | rw [c14b0] | (simp only [i64_w, i32_w]; rw [c14b0]) | skip)
          replace H := Option.bind_eq_some_iff.mp H
          obtain ⟨t152, A160, H⟩ := H
          replace H : (horariumlaw12_QpaLess.j1 kj5 a1 a2 t145 x8_5 (t152 != 0)) = some r := H
          have A16 := Aside0.mk A160
          clear A160
          have H' := Aside0.mk H
          clear H
          obtain ⟨Ao17, co17, eo17⟩ := Kd.R_slice HO_8.out
          subst eo17
          go_wp2_with (first | (go_at_call 29; (with_reducible refine (qpa_Test.calls kj5 _ _ x8_5 t152 _ ?side1 ?side2 A16.out).mono ?_); (case side1 => repeat (first | exact (Kd.R_reads' HO_8.out).2.2 | (with_reducible refine Kd.C_alloc ?_ _) | (with_reducible refine Kd.C_drewN ?_ _) | (with_reducible refine Kd.C_drew ?_))); (case side2 => exact (Kd.R_reads' HO_8.out).2.1); rintro e w18 ⟨rfl, hb⟩; have n0_ := Aside0.mk (Kd.R_below (by (with_reducible repeat (first | apply Kd.R_alloc | apply Kd.R_drewN | apply Kd.R_drew)); exact HO_8.out) hb); have n1_ := Aside0.mk (below_step (by repeat (first | (with_reducible first | exact HB.out | apply below_alloc | apply pw_below_drewN | apply below_drew1) | exact HB.out)) hb); clear HO_8; clear HB; have HO_8 := n0_; have HB := n1_; clear n0_ n1_; (try clear hb); (try clear hb2); (try clear hk); (try clear hi)))
          go_meet
          case rel => exact ⟨_, ((t152 != 0)), (by first | rfl | (simp; done) | (simp [*]; done)), H', ⟨by have := HJ5.out; first | omega | exact Nat.le_refl _⟩, ⟨by (with_reducible repeat (first | apply Kd.R_alloc | apply Kd.R_drewN | apply Kd.R_drew)); exact HO_8.out⟩, ⟨by repeat (first | (with_reducible first | exact HB.out | apply below_alloc | apply pw_below_drewN | apply below_drew1) | exact HB.out)⟩⟩
      case rest =>
        clear HC13
        try clear c1
        try clear q1
        try clear c2
        try clear p2
        try clear c9
        try clear c10
        try clear c10b0
        try clear c10b1
        try clear c11
        try clear c11b0
        try clear c11b1
        try clear q12
        try clear c14
        try clear c14b0
        try clear c14b1
        try clear c14b2
        try clear p2
        try clear q1
        try clear q12
        obtain ⟨kq, x26_12, rfl, HA, HJ12, HO_8, HB⟩ := hcut
        cases kq with
        | zero => exact absurd HA.out (by simp [horariumlaw12_QpaLess.j1])
        | succ kj12 =>
          have H := HA.out
          clear HA
          simp only [horariumlaw12_QpaLess.j1] at H
          by_cases c19 : x26_12 = true
          · subst c19
            have H1 : (some t145) = some r := by rw [if_pos rfl] at H; exact H
            clear H
            have H := H1
            clear H1
            obtain rfl := Option.some.inj H
            go_wp2
            go_ret
            exact ⟨by first | rfl | (simp [errW_none, errW_some] <;> rfl) | (simp [*, errW_none, errW_some] <;> rfl), by repeat (first | (with_reducible first | exact HB.out | apply below_alloc | apply pw_below_drewN | apply below_drew1) | exact HB.out)⟩
          · replace c19 := Bool.eq_false_iff.mpr c19
            subst c19
            have H1 : (if (x8_5.length : Int) = 0 then (none) else ((some (([] : List (S28)) : List (S28))).bind fun y153 => (if y153.length + x8_5.length < 3518437208883 then ((some (y153 ++ x8_5 : List (S28))).bind fun y156 => (if (Go.bits .and .i64 a2 3) = 0 then (if 0 ≤ (Int.tmod (wrap64 ((Int.tmod a1 (x8_5.length : Int)) + (x8_5.length : Int))) (x8_5.length : Int)) then (if (Int.tmod (wrap64 ((Int.tmod a1 (x8_5.length : Int)) + (x8_5.length : Int))) (x8_5.length : Int)) ≤ (y156.length : Int) then (if 0 ≤ (wrap64 ((Int.tmod (wrap64 ((Int.tmod a1 (x8_5.length : Int)) + (x8_5.length : Int))) (x8_5.length : Int)) + 1)) then (if (wrap64 ((Int.tmod (wrap64 ((Int.tmod a1 (x8_5.length : Int)) + (x8_5.length : Int))) (x8_5.length : Int)) + 1)) ≤ (y156.length : Int) then (if t145 = true then ((qpa_Test.f kj12 (y156.eraseIdx ((Int.tmod (wrap64 ((Int.tmod a1 (x8_5.length : Int)) + (x8_5.length : Int))) (x8_5.length : Int)) : Int).toNat)).bind fun t170 => (some (t170 == 0))) else (some false)) else (none)) else (none)) else (none)) else (none)) else (if (Go.bits .and .i64 a2 3) = 1 then (if 0 ≤ (Int.tmod (wrap64 ((Int.tmod a1 (x8_5.length : Int)) + (x8_5.length : Int))) (x8_5.length : Int)) then (if (Int.tmod (wrap64 ((Int.tmod a1 (x8_5.length : Int)) + (x8_5.length : Int))) (x8_5.length : Int)) < (y156.length : Int) then (if ((rd_T28 y156 (Int.tmod (wrap64 ((Int.tmod a1 (x8_5.length : Int)) + (x8_5.length : Int))) (x8_5.length : Int))).f1) > 1 then (if t145 = true then ((qpa_Test.f kj12 (y156.set ((Int.tmod (wrap64 ((Int.tmod a1 (x8_5.length : Int)) + (x8_5.length : Int))) (x8_5.length : Int)) : Int).toNat (⟨(rd_T28 y156 (Int.tmod (wrap64 ((Int.tmod a1 (x8_5.length : Int)) + (x8_5.length : Int))) (x8_5.length : Int))).f0, wrap64 (((rd_T28 y156 (Int.tmod (wrap64 ((Int.tmod a1 (x8_5.length : Int)) + (x8_5.length : Int))) (x8_5.length : Int))).f1) - 1), (rd_T28 y156 (Int.tmod (wrap64 ((Int.tmod a1 (x8_5.length : Int)) + (x8_5.length : Int))) (x8_5.length : Int))).f2, (rd_T28 y156 (Int.tmod (wrap64 ((Int.tmod a1 (x8_5.length : Int)) + (x8_5.length : Int))) (x8_5.length : Int))).f3, (rd_T28 y156 (Int.tmod (wrap64 ((Int.tmod a1 (x8_5.length : Int)) + (x8_5.length : Int))) (x8_5.length : Int))).f4⟩ : S28))).bind fun t174 => (some (t174 == 0))) else (some false)) else (if t145 = true then ((qpa_Test.f kj12 y156).bind fun t175 => (some (t175 == 0))) else (some false))) else (none)) else (none)) else (if (Go.bits .and .i64 a2 3) = 2 then (if 0 ≤ (Int.tmod (wrap64 ((Int.tmod a1 (x8_5.length : Int)) + (x8_5.length : Int))) (x8_5.length : Int)) then (if (Int.tmod (wrap64 ((Int.tmod a1 (x8_5.length : Int)) + (x8_5.length : Int))) (x8_5.length : Int)) < (y156.length : Int) then (if ((rd_T28 y156 (Int.tmod (wrap64 ((Int.tmod a1 (x8_5.length : Int)) + (x8_5.length : Int))) (x8_5.length : Int))).f2) < ((rd_T28 y156 (Int.tmod (wrap64 ((Int.tmod a1 (x8_5.length : Int)) + (x8_5.length : Int))) (x8_5.length : Int))).f3) then (if t145 = true then ((qpa_Test.f kj12 (y156.set ((Int.tmod (wrap64 ((Int.tmod a1 (x8_5.length : Int)) + (x8_5.length : Int))) (x8_5.length : Int)) : Int).toNat (⟨(rd_T28 y156 (Int.tmod (wrap64 ((Int.tmod a1 (x8_5.length : Int)) + (x8_5.length : Int))) (x8_5.length : Int))).f0, (rd_T28 y156 (Int.tmod (wrap64 ((Int.tmod a1 (x8_5.length : Int)) + (x8_5.length : Int))) (x8_5.length : Int))).f1, wrap64 (((rd_T28 y156 (Int.tmod (wrap64 ((Int.tmod a1 (x8_5.length : Int)) + (x8_5.length : Int))) (x8_5.length : Int))).f2) + 1), (rd_T28 y156 (Int.tmod (wrap64 ((Int.tmod a1 (x8_5.length : Int)) + (x8_5.length : Int))) (x8_5.length : Int))).f3, (rd_T28 y156 (Int.tmod (wrap64 ((Int.tmod a1 (x8_5.length : Int)) + (x8_5.length : Int))) (x8_5.length : Int))).f4⟩ : S28))).bind fun t180 => (some (t180 == 0))) else (some false)) else (if t145 = true then ((qpa_Test.f kj12 y156).bind fun t181 => (some (t181 == 0))) else (some false))) else (none)) else (none)) else (if (Go.bits .and .i64 a2 3) = 3 then (if 0 ≤ (Int.tmod (wrap64 ((Int.tmod a1 (x8_5.length : Int)) + (x8_5.length : Int))) (x8_5.length : Int)) then (if (Int.tmod (wrap64 ((Int.tmod a1 (x8_5.length : Int)) + (x8_5.length : Int))) (x8_5.length : Int)) < (y156.length : Int) then (if t145 = true then ((qpa_Test.f kj12 (y156.set ((Int.tmod (wrap64 ((Int.tmod a1 (x8_5.length : Int)) + (x8_5.length : Int))) (x8_5.length : Int)) : Int).toNat (⟨(rd_T28 y156 (Int.tmod (wrap64 ((Int.tmod a1 (x8_5.length : Int)) + (x8_5.length : Int))) (x8_5.length : Int))).f0, (rd_T28 y156 (Int.tmod (wrap64 ((Int.tmod a1 (x8_5.length : Int)) + (x8_5.length : Int))) (x8_5.length : Int))).f1, (rd_T28 y156 (Int.tmod (wrap64 ((Int.tmod a1 (x8_5.length : Int)) + (x8_5.length : Int))) (x8_5.length : Int))).f2, wrap64 (2 * ((rd_T28 y156 (Int.tmod (wrap64 ((Int.tmod a1 (x8_5.length : Int)) + (x8_5.length : Int))) (x8_5.length : Int))).f3)), (rd_T28 y156 (Int.tmod (wrap64 ((Int.tmod a1 (x8_5.length : Int)) + (x8_5.length : Int))) (x8_5.length : Int))).f4⟩ : S28))).bind fun t184 => (some (t184 == 0))) else (some false)) else (none)) else (none)) else (if t145 = true then ((qpa_Test.f kj12 y156).bind fun t185 => (some (t185 == 0))) else (some false))))))) else (none)))) = some r := by rw [if_neg (show ¬ (false = true) by decide)] at H; exact H
            clear H
            have H := H1
            clear H1
            by_cases c20 : (x8_5.length : Int) = 0
            · rw [if_pos c20] at H
              exact absurd H (by simp)
            · rw [if_neg c20] at H
              have c20b0 : ((x8_5.length : Int) == 0) = false := beq_eq_false_iff_ne.mpr c20
              have c20b1 : ((x8_5.length : Int) != 0) = true := bne_iff_ne.mpr c20
              have c20b2 : ¬ (x8_5 = []) := fun h_ => c20 (by rw [h_]; rfl)
              obtain ⟨y153, hy153⟩ : ∃ y_ : List (S28), y_ = (([] : List (S28))) := ⟨_, rfl⟩
              replace H : (if y153.length + x8_5.length < 3518437208883 then ((some (y153 ++ x8_5 : List (S28))).bind fun y156 => (if (Go.bits .and .i64 a2 3) = 0 then (if 0 ≤ (Int.tmod (wrap64 ((Int.tmod a1 (x8_5.length : Int)) + (x8_5.length : Int))) (x8_5.length : Int)) then (if (Int.tmod (wrap64 ((Int.tmod a1 (x8_5.length : Int)) + (x8_5.length : Int))) (x8_5.length : Int)) ≤ (y156.length : Int) then (if 0 ≤ (wrap64 ((Int.tmod (wrap64 ((Int.tmod a1 (x8_5.length : Int)) + (x8_5.length : Int))) (x8_5.length : Int)) + 1)) then (if (wrap64 ((Int.tmod (wrap64 ((Int.tmod a1 (x8_5.length : Int)) + (x8_5.length : Int))) (x8_5.length : Int)) + 1)) ≤ (y156.length : Int) then (if t145 = true then ((qpa_Test.f kj12 (y156.eraseIdx ((Int.tmod (wrap64 ((Int.tmod a1 (x8_5.length : Int)) + (x8_5.length : Int))) (x8_5.length : Int)) : Int).toNat)).bind fun t170 => (some (t170 == 0))) else (some false)) else (none)) else (none)) else (none)) else (none)) else (if (Go.bits .and .i64 a2 3) = 1 then (if 0 ≤ (Int.tmod (wrap64 ((Int.tmod a1 (x8_5.length : Int)) + (x8_5.length : Int))) (x8_5.length : Int)) then (if (Int.tmod (wrap64 ((Int.tmod a1 (x8_5.length : Int)) + (x8_5.length : Int))) (x8_5.length : Int)) < (y156.length : Int) then (if ((rd_T28 y156 (Int.tmod (wrap64 ((Int.tmod a1 (x8_5.length : Int)) + (x8_5.length : Int))) (x8_5.length : Int))).f1) > 1 then (if t145 = true then ((qpa_Test.f kj12 (y156.set ((Int.tmod (wrap64 ((Int.tmod a1 (x8_5.length : Int)) + (x8_5.length : Int))) (x8_5.length : Int)) : Int).toNat (⟨(rd_T28 y156 (Int.tmod (wrap64 ((Int.tmod a1 (x8_5.length : Int)) + (x8_5.length : Int))) (x8_5.length : Int))).f0, wrap64 (((rd_T28 y156 (Int.tmod (wrap64 ((Int.tmod a1 (x8_5.length : Int)) + (x8_5.length : Int))) (x8_5.length : Int))).f1) - 1), (rd_T28 y156 (Int.tmod (wrap64 ((Int.tmod a1 (x8_5.length : Int)) + (x8_5.length : Int))) (x8_5.length : Int))).f2, (rd_T28 y156 (Int.tmod (wrap64 ((Int.tmod a1 (x8_5.length : Int)) + (x8_5.length : Int))) (x8_5.length : Int))).f3, (rd_T28 y156 (Int.tmod (wrap64 ((Int.tmod a1 (x8_5.length : Int)) + (x8_5.length : Int))) (x8_5.length : Int))).f4⟩ : S28))).bind fun t174 => (some (t174 == 0))) else (some false)) else (if t145 = true then ((qpa_Test.f kj12 y156).bind fun t175 => (some (t175 == 0))) else (some false))) else (none)) else (none)) else (if (Go.bits .and .i64 a2 3) = 2 then (if 0 ≤ (Int.tmod (wrap64 ((Int.tmod a1 (x8_5.length : Int)) + (x8_5.length : Int))) (x8_5.length : Int)) then (if (Int.tmod (wrap64 ((Int.tmod a1 (x8_5.length : Int)) + (x8_5.length : Int))) (x8_5.length : Int)) < (y156.length : Int) then (if ((rd_T28 y156 (Int.tmod (wrap64 ((Int.tmod a1 (x8_5.length : Int)) + (x8_5.length : Int))) (x8_5.length : Int))).f2) < ((rd_T28 y156 (Int.tmod (wrap64 ((Int.tmod a1 (x8_5.length : Int)) + (x8_5.length : Int))) (x8_5.length : Int))).f3) then (if t145 = true then ((qpa_Test.f kj12 (y156.set ((Int.tmod (wrap64 ((Int.tmod a1 (x8_5.length : Int)) + (x8_5.length : Int))) (x8_5.length : Int)) : Int).toNat (⟨(rd_T28 y156 (Int.tmod (wrap64 ((Int.tmod a1 (x8_5.length : Int)) + (x8_5.length : Int))) (x8_5.length : Int))).f0, (rd_T28 y156 (Int.tmod (wrap64 ((Int.tmod a1 (x8_5.length : Int)) + (x8_5.length : Int))) (x8_5.length : Int))).f1, wrap64 (((rd_T28 y156 (Int.tmod (wrap64 ((Int.tmod a1 (x8_5.length : Int)) + (x8_5.length : Int))) (x8_5.length : Int))).f2) + 1), (rd_T28 y156 (Int.tmod (wrap64 ((Int.tmod a1 (x8_5.length : Int)) + (x8_5.length : Int))) (x8_5.length : Int))).f3, (rd_T28 y156 (Int.tmod (wrap64 ((Int.tmod a1 (x8_5.length : Int)) + (x8_5.length : Int))) (x8_5.length : Int))).f4⟩ : S28))).bind fun t180 => (some (t180 == 0))) else (some false)) else (if t145 = true then ((qpa_Test.f kj12 y156).bind fun t181 => (some (t181 == 0))) else (some false))) else (none)) else (none)) else (if (Go.bits .and .i64 a2 3) = 3 then (if 0 ≤ (Int.tmod (wrap64 ((Int.tmod a1 (x8_5.length : Int)) + (x8_5.length : Int))) (x8_5.length : Int)) then (if (Int.tmod (wrap64 ((Int.tmod a1 (x8_5.length : Int)) + (x8_5.length : Int))) (x8_5.length : Int)) < (y156.length : Int) then (if t145 = true then ((qpa_Test.f kj12 (y156.set ((Int.tmod (wrap64 ((Int.tmod a1 (x8_5.length : Int)) + (x8_5.length : Int))) (x8_5.length : Int)) : Int).toNat (⟨(rd_T28 y156 (Int.tmod (wrap64 ((Int.tmod a1 (x8_5.length : Int)) + (x8_5.length : Int))) (x8_5.length : Int))).f0, (rd_T28 y156 (Int.tmod (wrap64 ((Int.tmod a1 (x8_5.length : Int)) + (x8_5.length : Int))) (x8_5.length : Int))).f1, (rd_T28 y156 (Int.tmod (wrap64 ((Int.tmod a1 (x8_5.length : Int)) + (x8_5.length : Int))) (x8_5.length : Int))).f2, wrap64 (2 * ((rd_T28 y156 (Int.tmod (wrap64 ((Int.tmod a1 (x8_5.length : Int)) + (x8_5.length : Int))) (x8_5.length : Int))).f3)), (rd_T28 y156 (Int.tmod (wrap64 ((Int.tmod a1 (x8_5.length : Int)) + (x8_5.length : Int))) (x8_5.length : Int))).f4⟩ : S28))).bind fun t184 => (some (t184 == 0))) else (some false)) else (none)) else (none)) else (if t145 = true then ((qpa_Test.f kj12 y156).bind fun t185 => (some (t185 == 0))) else (some false))))))) else (none)) = some r := by first | (rw [hy153]; with_reducible exact H) | (have H2_ := (Option.bind_some _ _).symm.trans H; rw [hy153]; with_reducible exact H2_) | (have H2_ := (Option.bind_some _ _).symm.trans H; with_reducible exact H2_) | with_reducible exact H | (rw [hy153]; exact H) | exact H
              have Ny153 := Aside0.mk hy153
              clear hy153
              by_cases c21 : y153.length + x8_5.length < 3518437208883
              · rw [if_pos c21] at H
                have LMc21 := Aside0.mk c21
                clear c21
                obtain ⟨y156, hy156⟩ : ∃ y_ : List (S28), y_ = (y153 ++ x8_5) := ⟨_, rfl⟩
                replace H : (if (Go.bits .and .i64 a2 3) = 0 then (if 0 ≤ (Int.tmod (wrap64 ((Int.tmod a1 (x8_5.length : Int)) + (x8_5.length : Int))) (x8_5.length : Int)) then (if (Int.tmod (wrap64 ((Int.tmod a1 (x8_5.length : Int)) + (x8_5.length : Int))) (x8_5.length : Int)) ≤ (y156.length : Int) then (if 0 ≤ (wrap64 ((Int.tmod (wrap64 ((Int.tmod a1 (x8_5.length : Int)) + (x8_5.length : Int))) (x8_5.length : Int)) + 1)) then (if (wrap64 ((Int.tmod (wrap64 ((Int.tmod a1 (x8_5.length : Int)) + (x8_5.length : Int))) (x8_5.length : Int)) + 1)) ≤ (y156.length : Int) then (if t145 = true then ((qpa_Test.f kj12 (y156.eraseIdx ((Int.tmod (wrap64 ((Int.tmod a1 (x8_5.length : Int)) + (x8_5.length : Int))) (x8_5.length : Int)) : Int).toNat)).bind fun t170 => (some (t170 == 0))) else (some false)) else (none)) else (none)) else (none)) else (none)) else (if (Go.bits .and .i64 a2 3) = 1 then (if 0 ≤ (Int.tmod (wrap64 ((Int.tmod a1 (x8_5.length : Int)) + (x8_5.length : Int))) (x8_5.length : Int)) then (if (Int.tmod (wrap64 ((Int.tmod a1 (x8_5.length : Int)) + (x8_5.length : Int))) (x8_5.length : Int)) < (y156.length : Int) then (if ((rd_T28 y156 (Int.tmod (wrap64 ((Int.tmod a1 (x8_5.length : Int)) + (x8_5.length : Int))) (x8_5.length : Int))).f1) > 1 then (if t145 = true then ((qpa_Test.f kj12 (y156.set ((Int.tmod (wrap64 ((Int.tmod a1 (x8_5.length : Int)) + (x8_5.length : Int))) (x8_5.length : Int)) : Int).toNat (⟨(rd_T28 y156 (Int.tmod (wrap64 ((Int.tmod a1 (x8_5.length : Int)) + (x8_5.length : Int))) (x8_5.length : Int))).f0, wrap64 (((rd_T28 y156 (Int.tmod (wrap64 ((Int.tmod a1 (x8_5.length : Int)) + (x8_5.length : Int))) (x8_5.length : Int))).f1) - 1), (rd_T28 y156 (Int.tmod (wrap64 ((Int.tmod a1 (x8_5.length : Int)) + (x8_5.length : Int))) (x8_5.length : Int))).f2, (rd_T28 y156 (Int.tmod (wrap64 ((Int.tmod a1 (x8_5.length : Int)) + (x8_5.length : Int))) (x8_5.length : Int))).f3, (rd_T28 y156 (Int.tmod (wrap64 ((Int.tmod a1 (x8_5.length : Int)) + (x8_5.length : Int))) (x8_5.length : Int))).f4⟩ : S28))).bind fun t174 => (some (t174 == 0))) else (some false)) else (if t145 = true then ((qpa_Test.f kj12 y156).bind fun t175 => (some (t175 == 0))) else (some false))) else (none)) else (none)) else (if (Go.bits .and .i64 a2 3) = 2 then (if 0 ≤ (Int.tmod (wrap64 ((Int.tmod a1 (x8_5.length : Int)) + (x8_5.length : Int))) (x8_5.length : Int)) then (if (Int.tmod (wrap64 ((Int.tmod a1 (x8_5.length : Int)) + (x8_5.length : Int))) (x8_5.length : Int)) < (y156.length : Int) then (if ((rd_T28 y156 (Int.tmod (wrap64 ((Int.tmod a1 (x8_5.length : Int)) + (x8_5.length : Int))) (x8_5.length : Int))).f2) < ((rd_T28 y156 (Int.tmod (wrap64 ((Int.tmod a1 (x8_5.length : Int)) + (x8_5.length : Int))) (x8_5.length : Int))).f3) then (if t145 = true then ((qpa_Test.f kj12 (y156.set ((Int.tmod (wrap64 ((Int.tmod a1 (x8_5.length : Int)) + (x8_5.length : Int))) (x8_5.length : Int)) : Int).toNat (⟨(rd_T28 y156 (Int.tmod (wrap64 ((Int.tmod a1 (x8_5.length : Int)) + (x8_5.length : Int))) (x8_5.length : Int))).f0, (rd_T28 y156 (Int.tmod (wrap64 ((Int.tmod a1 (x8_5.length : Int)) + (x8_5.length : Int))) (x8_5.length : Int))).f1, wrap64 (((rd_T28 y156 (Int.tmod (wrap64 ((Int.tmod a1 (x8_5.length : Int)) + (x8_5.length : Int))) (x8_5.length : Int))).f2) + 1), (rd_T28 y156 (Int.tmod (wrap64 ((Int.tmod a1 (x8_5.length : Int)) + (x8_5.length : Int))) (x8_5.length : Int))).f3, (rd_T28 y156 (Int.tmod (wrap64 ((Int.tmod a1 (x8_5.length : Int)) + (x8_5.length : Int))) (x8_5.length : Int))).f4⟩ : S28))).bind fun t180 => (some (t180 == 0))) else (some false)) else (if t145 = true then ((qpa_Test.f kj12 y156).bind fun t181 => (some (t181 == 0))) else (some false))) else (none)) else (none)) else (if (Go.bits .and .i64 a2 3) = 3 then (if 0 ≤ (Int.tmod (wrap64 ((Int.tmod a1 (x8_5.length : Int)) + (x8_5.length : Int))) (x8_5.length : Int)) then (if (Int.tmod (wrap64 ((Int.tmod a1 (x8_5.length : Int)) + (x8_5.length : Int))) (x8_5.length : Int)) < (y156.length : Int) then (if t145 = true then ((qpa_Test.f kj12 (y156.set ((Int.tmod (wrap64 ((Int.tmod a1 (x8_5.length : Int)) + (x8_5.length : Int))) (x8_5.length : Int)) : Int).toNat (⟨(rd_T28 y156 (Int.tmod (wrap64 ((Int.tmod a1 (x8_5.length : Int)) + (x8_5.length : Int))) (x8_5.length : Int))).f0, (rd_T28 y156 (Int.tmod (wrap64 ((Int.tmod a1 (x8_5.length : Int)) + (x8_5.length : Int))) (x8_5.length : Int))).f1, (rd_T28 y156 (Int.tmod (wrap64 ((Int.tmod a1 (x8_5.length : Int)) + (x8_5.length : Int))) (x8_5.length : Int))).f2, wrap64 (2 * ((rd_T28 y156 (Int.tmod (wrap64 ((Int.tmod a1 (x8_5.length : Int)) + (x8_5.length : Int))) (x8_5.length : Int))).f3)), (rd_T28 y156 (Int.tmod (wrap64 ((Int.tmod a1 (x8_5.length : Int)) + (x8_5.length : Int))) (x8_5.length : Int))).f4⟩ : S28))).bind fun t184 => (some (t184 == 0))) else (some false)) else (none)) else (none)) else (if t145 = true then ((qpa_Test.f kj12 y156).bind fun t185 => (some (t185 == 0))) else (some false)))))) = some r := by first | (rw [hy156]; with_reducible exact H) | (have H2_ := (Option.bind_some _ _).symm.trans H; rw [hy156]; with_reducible exact H2_) | (have H2_ := (Option.bind_some _ _).symm.trans H; with_reducible exact H2_) | with_reducible exact H | (rw [hy156]; exact H) | exact H
                have Ny156 := Aside0.mk hy156
                clear hy156
                by_cases c22 : (Go.bits .and .i64 a2 3) = 0
                · rw [if_pos c22] at H
                  have c22b0 : ((Go.bits .and .i64 a2 3) == 0) = true := beq_iff_eq.mpr c22
                  have c22b1 : ((Go.bits .and .i64 a2 3) != 0) = false := bne_eq_false_iff_eq.mpr c22
                  clear c22
                  obtain ⟨ji23, hji23⟩ : ∃ j_ : Int, (Int.tmod (wrap64 ((Int.tmod a1 (x8_5.length : Int)) + (x8_5.length : Int))) (x8_5.length : Int)) = j_ := ⟨_, rfl⟩
                  replace H : (if 0 ≤ (ji23) then (if (ji23) ≤ (y156.length : Int) then (if 0 ≤ (wrap64 ((ji23) + 1)) then (if (wrap64 ((ji23) + 1)) ≤ (y156.length : Int) then (if t145 = true then ((qpa_Test.f kj12 (y156.eraseIdx ((ji23) : Int).toNat)).bind fun t170 => (some (t170 == 0))) else (some false)) else (none)) else (none)) else (none)) else (none)) = some r := by first | (rw [hji23] at H; exact H) | (simp only [hji23] at H ⊢; exact H)
                  by_cases c24 : 0 ≤ (ji23)
                  · rw [if_pos c24] at H
                    have c24b0 := eq_true c24
                    have c24b1 : decide (0 ≤ (ji23)) = true := decide_eq_true c24
                    clear c24
                    by_cases c25 : (ji23) ≤ (y156.length : Int)
                    · rw [if_pos c25] at H
                      have c25b0 := eq_true c25
                      have c25b1 : decide ((ji23) ≤ (y156.length : Int)) = true := decide_eq_true c25
                      clear c25
                      obtain ⟨y159, hy159⟩ : ∃ y_ : List (S28), y_ = (y156.take ((ji23) : Int).toNat) := ⟨_, rfl⟩
                      replace H : (if 0 ≤ (wrap64 ((ji23) + 1)) then (if (wrap64 ((ji23) + 1)) ≤ (y156.length : Int) then (if t145 = true then ((qpa_Test.f kj12 (y156.eraseIdx ((ji23) : Int).toNat)).bind fun t170 => (some (t170 == 0))) else (some false)) else (none)) else (none)) = some r := by first | (rw [hy159]; with_reducible exact H) | (have H2_ := (Option.bind_some _ _).symm.trans H; rw [hy159]; with_reducible exact H2_) | (have H2_ := (Option.bind_some _ _).symm.trans H; with_reducible exact H2_) | with_reducible exact H | (rw [hy159]; exact H) | exact H
                      have Ny159 := Aside0.mk hy159
                      clear hy159
                      obtain ⟨ji26, hji26⟩ : ∃ j_ : Int, (wrap64 ((ji23) + 1)) = j_ := ⟨_, rfl⟩
                      replace H : (if 0 ≤ (ji26) then (if (ji26) ≤ (y156.length : Int) then (if t145 = true then ((qpa_Test.f kj12 (y156.eraseIdx ((ji23) : Int).toNat)).bind fun t170 => (some (t170 == 0))) else (some false)) else (none)) else (none)) = some r := by first | (rw [hji26] at H; exact H) | (simp only [hji26] at H ⊢; exact H)
                      have hji26w : (IntKind.i64.wrap ((ji23) + 1)) = ji26 := (i64_w _).trans hji26
                      by_cases c27 : 0 ≤ (ji26)
                      · rw [if_pos c27] at H
                        have c27b0 := eq_true c27
                        have c27b1 : decide (0 ≤ (ji26)) = true := decide_eq_true c27
                        clear c27
                        by_cases c28 : (ji26) ≤ (y156.length : Int)
                        · rw [if_pos c28] at H
                          have c28b0 := eq_true c28
                          have c28b1 : decide ((ji26) ≤ (y156.length : Int)) = true := decide_eq_true c28
                          clear c28
                          obtain ⟨y163, hy163⟩ : ∃ y_ : List (S28), y_ = (y156.drop ((ji26) : Int).toNat) := ⟨_, rfl⟩
                          replace H : (if t145 = true then ((qpa_Test.f kj12 (y156.eraseIdx ((ji23) : Int).toNat)).bind fun t170 => (some (t170 == 0))) else (some false)) = some r := by first | (rw [hy163]; with_reducible exact H) | (have H2_ := (Option.bind_some _ _).symm.trans H; rw [hy163]; with_reducible exact H2_) | (have H2_ := (Option.bind_some _ _).symm.trans H; with_reducible exact H2_) | with_reducible exact H | (rw [hy163]; exact H) | exact H
                          have Ny163 := Aside0.mk hy163
                          clear hy163
                          obtain ⟨y167, hy167⟩ : ∃ y_ : List (S28), y_ = (y156.eraseIdx ((ji23) : Int).toNat) := ⟨_, rfl⟩
                          replace H : (if t145 = true then ((qpa_Test.f kj12 y167).bind fun t170 => (some (t170 == 0))) else (some false)) = some r := by first | (rw [hy167]; with_reducible exact H) | (have H2_ := (Option.bind_some _ _).symm.trans H; rw [hy167]; with_reducible exact H2_) | (have H2_ := (Option.bind_some _ _).symm.trans H; with_reducible exact H2_) | with_reducible exact H | (rw [hy167]; exact H) | exact H
                          have Ny167 := Aside0.mk hy167
                          clear hy167
                          by_cases c29 : t145 = true
                          · subst c29
                            have H1 : ((qpa_Test.f kj12 y167).bind fun t170 => (some (t170 == 0))) = some r := by rw [if_pos rfl] at H; exact H
                            clear H
                            have H := H1
                            clear H1
                            replace H := Option.bind_eq_some_iff.mp H
                            obtain ⟨t170, A300, H⟩ := H
                            replace H : (some (t170 == 0)) = some r := H
                            have A30 := Aside0.mk A300
                            clear A300
                            obtain rfl := Option.some.inj H
                            obtain ⟨Ao31, co31, eo31⟩ := Kd.R_slice HO_8.out
                            subst eo31
                            try go_wp2_with (first | ((with_reducible refine gate_dst (N := 38) rfl ?_); refine Kd.R_lit k28 _ 28 ?hg (N := 38) ?hd (xs := ([] : List (S28))) (inner := []) (ok := fun _ => True) (okp := fun _ => True) ?hr ?hp (fun _ hk => hk) trivial (Below.refl _ _) (Nat.le_refl _) (by simp) ?_; (case hd => rfl); (case hg => rfl); (case hr => first | (go_simp; done) | (go_simp; rfl)); (case hp => exact (Reps.none _ _)); intro v154 w32 ho33 hb hg_ hnew_; clear hg_ hnew_; (first | rw [← Ny153.out] at ho33 | (simp only [Int.reduceToNat] at ho33; rw [← Ny153.out] at ho33)); have n0_ := Aside0.mk (Kd.R_elder' (by (with_reducible repeat (first | apply Kd.R_alloc | apply Kd.R_drewN | apply Kd.R_drew)); exact HO_8.out) (Kd.R_base ho33) hb); have n1_ := Aside0.mk (Kd.R_lower (Kd.R_new' ho33 (Kd.R_lt (by (with_reducible repeat (first | apply Kd.R_alloc | apply Kd.R_drewN | apply Kd.R_drew)); exact HO_8.out))) (below_size (by repeat (first | (with_reducible first | exact HB.out | apply below_alloc | apply pw_below_drewN | apply below_drew1) | exact HB.out)))); have n2_ := Aside0.mk (below_step (by repeat (first | (with_reducible first | exact HB.out | apply below_alloc | apply pw_below_drewN | apply below_drew1) | exact HB.out)) hb); clear HO_8; clear HB; have HO_8 := n0_; have HO155 := n1_; have HB := n2_; clear n0_ n1_ n2_; clear hb ho33) | ((with_reducible refine gate_builtin (b := .append) (xs := #[.tmp 38, .tmp 39]) rfl ?_); at_builtin; refine Kd.R_append_rows k28 (w0 := w) w.heap.size rfl (.tmp 38) (.tmp 39) 24 28 (.agg #[(.int .i64 0), (.int .i64 0), (.int .i64 0), (.int .i64 0), (.int .i64 0)]) 40 rfl Try.underlying24 info28 rfl (by decide) (by omega) v154 y153 x8_5 _ _ _ (fun k_ => some k_ ≠ (.slice Ao31 x8_5.length co31 : Value).ownBlock) (fun _ => False) rfl rfl ?aO ?aR (fun _ _ h => h) (fun _ h => h.elim) ?aF ?aB ?aS ?aL ?_; (case aR => repeat (first | exact (Kd.R_reads' HO_8.out).2.2 | (with_reducible refine Kd.C_alloc ?_ _) | (with_reducible refine Kd.C_drewN ?_ _) | (with_reducible refine Kd.C_drew ?_))); (case aB => exact (by repeat (first | (with_reducible first | exact HB.out | apply below_alloc | apply pw_below_drewN | apply below_drew1) | exact HB.out))); (case aF => exact (fun k_ hk => Kd.fresh' (Kd.R_lt (by (with_reducible repeat (first | apply Kd.R_alloc | apply Kd.R_drewN | apply Kd.R_drew)); exact HO_8.out)) k_ hk)); (case aO => exact (by (with_reducible repeat (first | apply Kd.R_alloc | apply Kd.R_drewN | apply Kd.R_drew)); exact Kd.R_mono HO155.out (fun _ hk => hk.2))); (case aS => exact (below_size (by repeat (first | (with_reducible first | exact HB.out | apply below_alloc | apply pw_below_drewN | apply below_drew1) | exact HB.out)))); (case aL => have := LMc21.out; omega); intro v157 w34 ho hb hg hat; rw [← Ny156.out] at ho; have n0_ := Aside0.mk (Kd.R_after (ok := (fun _ => True)) (by (with_reducible repeat (first | apply Kd.R_alloc | apply Kd.R_drewN | apply Kd.R_drew)); exact HO_8.out) hg hat); have n1_ := Aside0.mk (hb); have n2_ := Aside0.mk (ho); clear HO_8; clear HB; clear HO155; have HO_8 := n0_; have HB := n1_; have HO158 := n2_; clear n0_ n1_ n2_; clear ho hb hg hat))
                            have n0_ := Aside0.mk (Kd.R_drew HO_8.out)
                            have n1_ := Aside0.mk (Kd.R_drew HO158.out)
                            have n2_ := Aside0.mk (below_drew1 HB.out)
                            clear HO_8
                            clear HO158
                            clear HB
                            have HO_8 := n0_
                            have HO158 := n1_
                            have HB := n2_
                            clear n0_ n1_ n2_
                            obtain ⟨Ao37, co37, eo37⟩ := Kd.R_slice HO158.out
                            (first | subst eo37 | (injection eo37 with f1_ f2_ f3_; have f4_ := f1_.symm; have f5_ := f3_.symm; clear f1_ f2_ f3_; subst f4_; subst f5_))
                            have q36 : ((ji23) : Int) ≤ ((y156.length : Int) : Int) := of_decide_eq_true (by first | (with_reducible assumption) | assumption)
                            obtain ⟨i036, hi036, _, hsz36, _⟩ := info_parts info28
                            have hroom36 : y156.length ≤ co37 := (Kd.R_reads' HO158.out).2.1
                            have hC36 : Kd.C k28 _ Ao37 y156.length y156 := (Kd.R_reads' HO158.out).2.2
                            have hcut36 := cut_to (P := Try.prog) 24 28 .i64 Try.underlying24 hi036 Ao37 y156.length co37 (ji23) (of_decide_eq_true (by first | (with_reducible assumption) | assumption)) q36 hroom36
                            have hr36 := Kd.C_take (m := ((ji23) : Int).toNat) hC36 (by omega)
                            have hy36 : y159.length = ((ji23) : Int).toNat := (by rw [Ny159.out, List.length_take]; omega)
                            rw [← Ny159.out] at hr36
                            rw [← hy36] at hcut36
                            have HR162 := Aside0.mk hr36
                            have HC162 := Aside0.mk (show y159.length ≤ co37 from by omega)
                            clear hr36 hC36 hroom36 hi036 hsz36
                            have KY36 := Aside0.mk hy36
                            clear hy36
                            have KL36 := Aside0.mk (show ((ji23) : Int).toNat ≤ y156.length from by omega)
                            replace q36 := eq_true q36
                            have q38 : ((ji26) : Int) ≤ ((y156.length : Int) : Int) := of_decide_eq_true (by first | (with_reducible assumption) | assumption)
                            obtain ⟨i038, hi038, _, hsz38, _⟩ := info_parts info28
                            have hroom38 : y156.length ≤ co37 := (Kd.R_reads' HO158.out).2.1
                            have hC38 : Kd.C k28 _ Ao37 y156.length y156 := (Kd.R_reads' HO158.out).2.2
                            have q038 : (0 : Int) ≤ ((ji26) : Int) := of_decide_eq_true (by first | (with_reducible assumption) | assumption)
                            have hcut38 := cut_from (P := Try.prog) 24 28 .i64 Try.underlying24 hi038 5 hsz38 Ao37 y156.length co37 (ji26) q038 q38
                            have hr38 := Kd.C_drop (m := ((ji26) : Int).toNat) (c := co37) hC38 (by omega) hroom38
                            obtain ⟨A38, hA38⟩ : ∃ A1, A1 = (if co37 = ((ji26) : Int).toNat then Ao37 else (Ao37 : Option Addr).map (·.add (((ji26) : Int).toNat * 5))) := ⟨_, rfl⟩
                            obtain ⟨c38, hc38⟩ : ∃ c1, c1 = co37 - ((ji26) : Int).toNat := ⟨_, rfl⟩
                            have hy38 : y163.length = y156.length - ((ji26) : Int).toNat := (by rw [Ny163.out, List.length_drop] <;> omega)
                            rw [show (y156).drop ((ji26) : Int).toNat = y163 from Ny163.out.symm] at hr38
                            replace hr38 : Kd.C k28 _ A38 y163.length y163 := (by rw [hA38]; exact hr38)
                            rw [← hy38, ← hA38, ← hc38] at hcut38
                            have HR166 := Aside0.mk hr38
                            have HC166 := Aside0.mk (show y163.length ≤ c38 from by rw [hy38, hc38]; exact Nat.sub_le_sub_right hroom38 _)
                            clear hr38 hC38 hroom38 hi038 hsz38 hc38
                            have KY38 := Aside0.mk hy38
                            have KA38 := Aside0.mk hA38
                            clear hy38 hA38
                            have KL38 := Aside0.mk (show ((ji26) : Int).toNat ≤ y156.length from by omega)
                            replace q38 := eq_true q38
                            obtain ⟨go40, co40, eo40, gb40, gl40, cl40, HG40⟩ := Kd.R_form HO158.out (by have hj_ : 0 ≤ ((ji23) : Int) := of_decide_eq_true (by first | (with_reducible assumption) | assumption); have hl_ : (ji26 : Int) ≤ (y156.length : Int) := of_decide_eq_true (by first | (with_reducible assumption) | assumption); have hh_ : ((ji23) : Int) ≤ (y156.length : Int) := of_decide_eq_true (by first | (with_reducible assumption) | assumption); rw [← hji26] at hl_; unfold wrap64 at hl_; omega)
                            (first | cases eo40 | (injection eo40 with ea_ en_ ec_; (first | subst ea_ | (injection ea_ with ea_; subst ea_)); subst ec_; clear en_))
                            have GB40 := Aside0.mk gb40
                            have GG40 := Aside0.mk HG40
                            clear gb40 gl40 HG40
                            refine start_ (n := 9) (S := fun w' => True) (ds := []) #[false, false, false, false, false, false, false, false, false] (by kernel_rfl) rfl rfl trivial (fun hHeld => ?_); refine with_tabW horariumlaw12_QpaLess.tab11 horariumlaw12_QpaLess.bits11 (fun HT_ HW_ => ?_)
                            generalize w34.drew = w35 at HO_8 HO158 HB GG40 HR162 HR166 hHeld ⊢
                            refine pure_ (i := 0) (N := some 45) (v := ?_) (a' := ?_) #[true, false, false, false, false, false, false, false, false] rfl rfl (any_of HT_.out (by kernel_rfl)) (fun _ _ _ h => h) (Or.inl ⟨by rfl, ?_⟩) ?_ ?_
                            rotate_left
                            · intro w'
                              go_simp
                              with_reducible rfl
                            rotate_left
                            · simp only [Act.put, List.setIfInBounds_toArray, List.set_cons_zero, List.set_cons_succ, i64_w, i32_w]
                              rfl
                            refine pure_ (i := 1) (N := some 46) (v := ?_) (a' := ?_) #[true, true, false, false, false, false, false, false, false] rfl rfl (any_of HT_.out (by kernel_rfl)) (fun _ _ _ h => h) (Or.inl ⟨by rfl, ?_⟩) ?_ ?_
                            rotate_left
                            · intro w'
                              go_simp
                              with_reducible rfl
                            rotate_left
                            · simp only [Act.put, List.setIfInBounds_toArray, List.set_cons_zero, List.set_cons_succ, i64_w, i32_w]
                              rfl
                            refine pure_ (i := 2) (N := some 47) (v := ?_) (a' := ?_) #[true, true, true, false, false, false, false, false, false] rfl rfl (any_of HT_.out (by kernel_rfl)) (fun _ _ _ h => h) (Or.inl ⟨by rfl, ?_⟩) ?_ ?_
                            rotate_left
                            · intro w'
                              go_simp
                              with_reducible rfl
                            rotate_left
                            · simp only [Act.put, List.setIfInBounds_toArray, List.set_cons_zero, List.set_cons_succ, i64_w, i32_w]
                              rfl
                            refine pure_ (i := 3) (N := some 48) (v := ?_) (a' := ?_) #[true, true, true, true, false, false, false, false, false] rfl rfl (any_of HT_.out (by kernel_rfl)) (fun _ _ _ h => h) (Or.inl ⟨by rfl, ?_⟩) ?_ ?_
                            rotate_left
                            · intro w'
                              go_simp
                              with_reducible rfl
                            rotate_left
                            · simp only [Act.put, List.setIfInBounds_toArray, List.set_cons_zero, List.set_cons_succ, i64_w, i32_w]
                              rfl
                            refine pure_ (i := 4) (N := some 49) (v := ?_) (a' := ?_) #[true, true, true, true, true, false, false, false, false] rfl rfl (any_of HT_.out (by kernel_rfl)) (fun _ _ _ h => h) (Or.inl ⟨by rfl, ?_⟩) ?_ ?_
                            rotate_left
                            · intro w'
                              go_simp
                              with_reducible rfl
                            rotate_left
                            · simp only [Act.put, List.setIfInBounds_toArray, List.set_cons_zero, List.set_cons_succ, i64_w, i32_w]
                              rfl
                            refine pure_ (i := 5) (N := some 50) (v := ?_) (a' := ?_) #[true, true, true, true, true, true, false, false, false] rfl rfl (any_of HT_.out (by kernel_rfl)) (fun _ _ _ h => h) (Or.inl ⟨by rfl, ?_⟩) ?_ ?_
                            rotate_left
                            · intro w'
                              go_simp
                              with_reducible rfl
                            rotate_left
                            · simp only [Act.put, List.setIfInBounds_toArray, List.set_cons_zero, List.set_cons_succ, i64_w, i32_w]
                              rfl
                            refine pure_ (i := 6) (N := some 51) (v := ?_) (a' := ?_) #[true, true, true, true, true, true, true, false, false] rfl rfl (any_of HT_.out (by kernel_rfl)) (fun _ _ _ h => h) (Or.inl ⟨by rfl, ?_⟩) ?_ ?_
                            rotate_left
                            · intro w'
                              go_simp
                              with_reducible rfl
                            rotate_left
                            · simp only [Act.put, List.setIfInBounds_toArray, List.set_cons_zero, List.set_cons_succ, i64_w, i32_w]
                              rfl
                            refine one_ (i := 7) (N := some 52) #[true, true, true, true, true, true, true, true, false] rfl rfl (one_of HT_.out (by kernel_rfl)) (by decide) (fun K hK => ?_)
                            have hj_ : 0 ≤ ((ji23) : Int) := of_decide_eq_true (by first | (with_reducible assumption) | assumption)
                            have hl_ : (ji26 : Int) ≤ (y156.length : Int) := of_decide_eq_true (by first | (with_reducible assumption) | assumption)
                            have hh_ : ((ji23) : Int) ≤ (y156.length : Int) := of_decide_eq_true (by first | (with_reducible assumption) | assumption)
                            have hb_ := (Kd.R_reads' HO158.out).2.2.2.1
                            have h0_ : (0 : Int) ≤ (ji26 : Int) := of_decide_eq_true (by first | (with_reducible assumption) | assumption)
                            have hy1_ := KY36.out
                            have hk_ : (ji26 : Int).toNat = y159.length + 1 := (by have hw_ : (ji26 : Int) = (ji23) + 1 := (by have h00_ := h0_; rw [← hji26] at h00_ ⊢; unfold wrap64 at h00_ ⊢; omega); rw [hw_]; omega)
                            refine Kd.R_delete_step k28 (w0 := w) w.heap.size (by rfl) (.tmp 47) (.tmp 51) 24 28 rfl Try.underlying24 (by kernel_rfl) (g := go40) (n := y156.length) (c := co37) (k := y159.length) rfl rfl ?hA ?hm (by (with_reducible repeat (first | apply Kd.R_alloc | apply Kd.R_drewN | apply Kd.R_drew)); exact HO158.out) ?hk (by repeat (first | (with_reducible first | exact HB.out | apply below_alloc | apply pw_below_drewN | apply below_drew1) | exact HB.out)) (below_size (by repeat (first | (with_reducible first | exact HB.out | apply below_alloc | apply pw_below_drewN | apply below_drew1) | exact HB.out))) ?_
                            (case hA => have ha_ := KA38.out; rw [hk_] at ha_; exact ha_)
                            (case hm => have ha_ := KY38.out; omega)
                            (case hk => omega)
                            intro w39 ho hb hg
                            clear hj_ hl_ hh_ hb_ hk_ h0_
                            rw [hy1_, ← Ny167.out] at ho
                            clear hy1_
                            have hn_ : y156.length - 1 = y167.length := (by have := (Kd.R_reads' ho).1; omega)
                            rw [hn_] at ho ⊢
                            clear hn_
                            have n0_ := Aside0.mk (Kd.R_after (v := (.slice (some ⟨go40, 0, none⟩) y156.length co37)) (v1 := .slice (some ⟨go40, 0, none⟩) y167.length co37) (ok := (fun _ => True)) (by (with_reducible repeat (first | apply Kd.R_alloc | apply Kd.R_drewN | apply Kd.R_drew)); exact HO_8.out) hg (.inl rfl))
                            have n1_ := Aside0.mk (ho)
                            have n2_ := Aside0.mk (hb)
                            clear HO_8
                            clear HO158
                            clear HB
                            have HO_8 := n0_
                            have HO158 := n1_
                            have HB := n2_
                            clear n0_ n1_ n2_
                            clear ho hb hg
                            refine hK.out _ _ trivial (fun hHeld => ?_)
                            clear hK K
                            refine norm_ (a' := ?_) ?_ ?_
                            rotate_left
                            · show Act.put _ (some 52) _ = _
                              simp only [Act.put, List.setIfInBounds_toArray, List.set_cons_zero, List.set_cons_succ, i64_w, i32_w]
                              rfl
                            refine pure_ (i := 8) (N := some 10) (v := ?_) (a' := ?_) #[true, true, true, true, true, true, true, true, true] rfl rfl (any_of HT_.out (by kernel_rfl)) (fun _ _ _ h => h) (Or.inl ⟨by rfl, ?_⟩) ?_ ?_
                            rotate_left
                            · intro w'
                              go_simp
                              with_reducible rfl
                            rotate_left
                            · simp only [Act.put, List.setIfInBounds_toArray, List.set_cons_zero, List.set_cons_succ, i64_w, i32_w]
                              rfl
                            refine done_ (done_of HT_.out (by kernel_rfl)) ?_
                            try go_wp2_with (first | (go_at_call 29; (with_reducible refine (qpa_Test.calls kj12 _ _ y167 t170 _ ?side1 ?side2 A30.out).mono ?_); (case side1 => repeat (first | exact (Kd.R_reads' HO158.out).2.2 | (with_reducible refine Kd.C_alloc ?_ _) | (with_reducible refine Kd.C_drewN ?_ _) | (with_reducible refine Kd.C_drew ?_))); (case side2 => exact (Kd.R_reads' HO158.out).2.1); rintro e w41 ⟨rfl, hb⟩; have n0_ := Aside0.mk (Kd.R_below (by (with_reducible repeat (first | apply Kd.R_alloc | apply Kd.R_drewN | apply Kd.R_drew)); exact HO_8.out) hb); have n1_ := Aside0.mk (Kd.R_below (by (with_reducible repeat (first | apply Kd.R_alloc | apply Kd.R_drewN | apply Kd.R_drew)); exact HO158.out) hb); have n2_ := Aside0.mk (below_step (by repeat (first | (with_reducible first | exact HB.out | apply below_alloc | apply pw_below_drewN | apply below_drew1) | exact HB.out)) hb); clear HO_8; clear HO158; clear HB; have HO_8 := n0_; have HO158 := n1_; have HB := n2_; clear n0_ n1_ n2_; (try clear hb); (try clear hb2); (try clear hk); (try clear hi)))
                            go_ret
                            exact ⟨by first | rfl | (simp [errW_none, errW_some] <;> rfl) | (simp only [← hji23, ← hji26]; first | rfl | (simp [errW_none, errW_some] <;> rfl)) | (simp [*, errW_none, errW_some] <;> rfl), by repeat (first | (with_reducible first | exact HB.out | apply below_alloc | apply pw_below_drewN | apply below_drew1) | exact HB.out)⟩
                          · replace c29 := Bool.eq_false_iff.mpr c29
                            subst c29
                            have H1 : (some false) = some r := by rw [if_neg (show ¬ (false = true) by decide)] at H; exact H
                            clear H
                            have H := H1
                            clear H1
                            obtain rfl := Option.some.inj H
                            obtain ⟨Ao42, co42, eo42⟩ := Kd.R_slice HO_8.out
                            subst eo42
                            try go_wp2_with (first | ((with_reducible refine gate_dst (N := 38) rfl ?_); refine Kd.R_lit k28 _ 28 ?hg (N := 38) ?hd (xs := ([] : List (S28))) (inner := []) (ok := fun _ => True) (okp := fun _ => True) ?hr ?hp (fun _ hk => hk) trivial (Below.refl _ _) (Nat.le_refl _) (by simp) ?_; (case hd => rfl); (case hg => rfl); (case hr => first | (go_simp; done) | (go_simp; rfl)); (case hp => exact (Reps.none _ _)); intro v154 w43 ho44 hb hg_ hnew_; clear hg_ hnew_; (first | rw [← Ny153.out] at ho44 | (simp only [Int.reduceToNat] at ho44; rw [← Ny153.out] at ho44)); have n0_ := Aside0.mk (Kd.R_elder' (by (with_reducible repeat (first | apply Kd.R_alloc | apply Kd.R_drewN | apply Kd.R_drew)); exact HO_8.out) (Kd.R_base ho44) hb); have n1_ := Aside0.mk (Kd.R_lower (Kd.R_new' ho44 (Kd.R_lt (by (with_reducible repeat (first | apply Kd.R_alloc | apply Kd.R_drewN | apply Kd.R_drew)); exact HO_8.out))) (below_size (by repeat (first | (with_reducible first | exact HB.out | apply below_alloc | apply pw_below_drewN | apply below_drew1) | exact HB.out)))); have n2_ := Aside0.mk (below_step (by repeat (first | (with_reducible first | exact HB.out | apply below_alloc | apply pw_below_drewN | apply below_drew1) | exact HB.out)) hb); clear HO_8; clear HB; have HO_8 := n0_; have HO155 := n1_; have HB := n2_; clear n0_ n1_ n2_; clear hb ho44) | ((with_reducible refine gate_builtin (b := .append) (xs := #[.tmp 38, .tmp 39]) rfl ?_); at_builtin; refine Kd.R_append_rows k28 (w0 := w) w.heap.size rfl (.tmp 38) (.tmp 39) 24 28 (.agg #[(.int .i64 0), (.int .i64 0), (.int .i64 0), (.int .i64 0), (.int .i64 0)]) 40 rfl Try.underlying24 info28 rfl (by decide) (by omega) v154 y153 x8_5 _ _ _ (fun k_ => some k_ ≠ (.slice Ao42 x8_5.length co42 : Value).ownBlock) (fun _ => False) rfl rfl ?aO ?aR (fun _ _ h => h) (fun _ h => h.elim) ?aF ?aB ?aS ?aL ?_; (case aR => repeat (first | exact (Kd.R_reads' HO_8.out).2.2 | (with_reducible refine Kd.C_alloc ?_ _) | (with_reducible refine Kd.C_drewN ?_ _) | (with_reducible refine Kd.C_drew ?_))); (case aB => exact (by repeat (first | (with_reducible first | exact HB.out | apply below_alloc | apply pw_below_drewN | apply below_drew1) | exact HB.out))); (case aF => exact (fun k_ hk => Kd.fresh' (Kd.R_lt (by (with_reducible repeat (first | apply Kd.R_alloc | apply Kd.R_drewN | apply Kd.R_drew)); exact HO_8.out)) k_ hk)); (case aO => exact (by (with_reducible repeat (first | apply Kd.R_alloc | apply Kd.R_drewN | apply Kd.R_drew)); exact Kd.R_mono HO155.out (fun _ hk => hk.2))); (case aS => exact (below_size (by repeat (first | (with_reducible first | exact HB.out | apply below_alloc | apply pw_below_drewN | apply below_drew1) | exact HB.out)))); (case aL => have := LMc21.out; omega); intro v157 w45 ho hb hg hat; rw [← Ny156.out] at ho; have n0_ := Aside0.mk (Kd.R_after (ok := (fun _ => True)) (by (with_reducible repeat (first | apply Kd.R_alloc | apply Kd.R_drewN | apply Kd.R_drew)); exact HO_8.out) hg hat); have n1_ := Aside0.mk (hb); have n2_ := Aside0.mk (ho); clear HO_8; clear HB; clear HO155; have HO_8 := n0_; have HB := n1_; have HO158 := n2_; clear n0_ n1_ n2_; clear ho hb hg hat))
                            have n0_ := Aside0.mk (Kd.R_drew HO_8.out)
                            have n1_ := Aside0.mk (Kd.R_drew HO158.out)
                            have n2_ := Aside0.mk (below_drew1 HB.out)
                            clear HO_8
                            clear HO158
                            clear HB
                            have HO_8 := n0_
                            have HO158 := n1_
                            have HB := n2_
                            clear n0_ n1_ n2_
                            try clear hcut36
                            obtain ⟨Ao48, co48, eo48⟩ := Kd.R_slice HO158.out
                            (first | subst eo48 | (injection eo48 with f1_ f2_ f3_; have f4_ := f1_.symm; have f5_ := f3_.symm; clear f1_ f2_ f3_; subst f4_; subst f5_))
                            have q47 : ((ji23) : Int) ≤ ((y156.length : Int) : Int) := of_decide_eq_true (by first | (with_reducible assumption) | assumption)
                            obtain ⟨i047, hi047, _, hsz47, _⟩ := info_parts info28
                            have hroom47 : y156.length ≤ co48 := (Kd.R_reads' HO158.out).2.1
                            have hC47 : Kd.C k28 _ Ao48 y156.length y156 := (Kd.R_reads' HO158.out).2.2
                            have hcut47 := cut_to (P := Try.prog) 24 28 .i64 Try.underlying24 hi047 Ao48 y156.length co48 (ji23) (of_decide_eq_true (by first | (with_reducible assumption) | assumption)) q47 hroom47
                            have hr47 := Kd.C_take (m := ((ji23) : Int).toNat) hC47 (by omega)
                            have hy47 : y159.length = ((ji23) : Int).toNat := (by rw [Ny159.out, List.length_take]; omega)
                            rw [← Ny159.out] at hr47
                            rw [← hy47] at hcut47
                            have HR162 := Aside0.mk hr47
                            have HC162 := Aside0.mk (show y159.length ≤ co48 from by omega)
                            clear hr47 hC47 hroom47 hi047 hsz47
                            have KY47 := Aside0.mk hy47
                            clear hy47
                            have KL47 := Aside0.mk (show ((ji23) : Int).toNat ≤ y156.length from by omega)
                            replace q47 := eq_true q47
                            try clear hcut38
                            have q49 : ((ji26) : Int) ≤ ((y156.length : Int) : Int) := of_decide_eq_true (by first | (with_reducible assumption) | assumption)
                            obtain ⟨i049, hi049, _, hsz49, _⟩ := info_parts info28
                            have hroom49 : y156.length ≤ co48 := (Kd.R_reads' HO158.out).2.1
                            have hC49 : Kd.C k28 _ Ao48 y156.length y156 := (Kd.R_reads' HO158.out).2.2
                            have q049 : (0 : Int) ≤ ((ji26) : Int) := of_decide_eq_true (by first | (with_reducible assumption) | assumption)
                            have hcut49 := cut_from (P := Try.prog) 24 28 .i64 Try.underlying24 hi049 5 hsz49 Ao48 y156.length co48 (ji26) q049 q49
                            have hr49 := Kd.C_drop (m := ((ji26) : Int).toNat) (c := co48) hC49 (by omega) hroom49
                            obtain ⟨A49, hA49⟩ : ∃ A1, A1 = (if co48 = ((ji26) : Int).toNat then Ao48 else (Ao48 : Option Addr).map (·.add (((ji26) : Int).toNat * 5))) := ⟨_, rfl⟩
                            obtain ⟨c49, hc49⟩ : ∃ c1, c1 = co48 - ((ji26) : Int).toNat := ⟨_, rfl⟩
                            have hy49 : y163.length = y156.length - ((ji26) : Int).toNat := (by rw [Ny163.out, List.length_drop] <;> omega)
                            rw [show (y156).drop ((ji26) : Int).toNat = y163 from Ny163.out.symm] at hr49
                            replace hr49 : Kd.C k28 _ A49 y163.length y163 := (by rw [hA49]; exact hr49)
                            rw [← hy49, ← hA49, ← hc49] at hcut49
                            have HR166 := Aside0.mk hr49
                            have HC166 := Aside0.mk (show y163.length ≤ c49 from by rw [hy49, hc49]; exact Nat.sub_le_sub_right hroom49 _)
                            clear hr49 hC49 hroom49 hi049 hsz49 hc49
                            have KY49 := Aside0.mk hy49
                            have KA49 := Aside0.mk hA49
                            clear hy49 hA49
                            have KL49 := Aside0.mk (show ((ji26) : Int).toNat ≤ y156.length from by omega)
                            replace q49 := eq_true q49
                            obtain ⟨go51, co51, eo51, gb51, gl51, cl51, HG51⟩ := Kd.R_form HO158.out (by have hj_ : 0 ≤ ((ji23) : Int) := of_decide_eq_true (by first | (with_reducible assumption) | assumption); have hl_ : (ji26 : Int) ≤ (y156.length : Int) := of_decide_eq_true (by first | (with_reducible assumption) | assumption); have hh_ : ((ji23) : Int) ≤ (y156.length : Int) := of_decide_eq_true (by first | (with_reducible assumption) | assumption); rw [← hji26] at hl_; unfold wrap64 at hl_; omega)
                            (first | cases eo51 | (injection eo51 with ea_ en_ ec_; (first | subst ea_ | (injection ea_ with ea_; subst ea_)); subst ec_; clear en_))
                            have GB51 := Aside0.mk gb51
                            have GG51 := Aside0.mk HG51
                            clear gb51 gl51 HG51
                            refine start_ (n := 9) (S := fun w' => True) (ds := []) #[false, false, false, false, false, false, false, false, false] (by kernel_rfl) rfl rfl trivial (fun hHeld => ?_); refine with_tabW horariumlaw12_QpaLess.tab11 horariumlaw12_QpaLess.bits11 (fun HT_ HW_ => ?_)
                            generalize w45.drew = w46 at HO_8 HO158 HB GG51 HR162 HR166 hHeld ⊢
                            refine pure_ (i := 0) (N := some 45) (v := ?_) (a' := ?_) #[true, false, false, false, false, false, false, false, false] rfl rfl (any_of HT_.out (by kernel_rfl)) (fun _ _ _ h => h) (Or.inl ⟨by rfl, ?_⟩) ?_ ?_
                            rotate_left
                            · intro w'
                              go_simp
                              with_reducible rfl
                            rotate_left
                            · simp only [Act.put, List.setIfInBounds_toArray, List.set_cons_zero, List.set_cons_succ, i64_w, i32_w]
                              rfl
                            refine pure_ (i := 1) (N := some 46) (v := ?_) (a' := ?_) #[true, true, false, false, false, false, false, false, false] rfl rfl (any_of HT_.out (by kernel_rfl)) (fun _ _ _ h => h) (Or.inl ⟨by rfl, ?_⟩) ?_ ?_
                            rotate_left
                            · intro w'
                              go_simp
                              with_reducible rfl
                            rotate_left
                            · simp only [Act.put, List.setIfInBounds_toArray, List.set_cons_zero, List.set_cons_succ, i64_w, i32_w]
                              rfl
                            refine pure_ (i := 2) (N := some 47) (v := ?_) (a' := ?_) #[true, true, true, false, false, false, false, false, false] rfl rfl (any_of HT_.out (by kernel_rfl)) (fun _ _ _ h => h) (Or.inl ⟨by rfl, ?_⟩) ?_ ?_
                            rotate_left
                            · intro w'
                              go_simp
                              with_reducible rfl
                            rotate_left
                            · simp only [Act.put, List.setIfInBounds_toArray, List.set_cons_zero, List.set_cons_succ, i64_w, i32_w]
                              rfl
                            refine pure_ (i := 3) (N := some 48) (v := ?_) (a' := ?_) #[true, true, true, true, false, false, false, false, false] rfl rfl (any_of HT_.out (by kernel_rfl)) (fun _ _ _ h => h) (Or.inl ⟨by rfl, ?_⟩) ?_ ?_
                            rotate_left
                            · intro w'
                              go_simp
                              with_reducible rfl
                            rotate_left
                            · simp only [Act.put, List.setIfInBounds_toArray, List.set_cons_zero, List.set_cons_succ, i64_w, i32_w]
                              rfl
                            refine pure_ (i := 4) (N := some 49) (v := ?_) (a' := ?_) #[true, true, true, true, true, false, false, false, false] rfl rfl (any_of HT_.out (by kernel_rfl)) (fun _ _ _ h => h) (Or.inl ⟨by rfl, ?_⟩) ?_ ?_
                            rotate_left
                            · intro w'
                              go_simp
                              with_reducible rfl
                            rotate_left
                            · simp only [Act.put, List.setIfInBounds_toArray, List.set_cons_zero, List.set_cons_succ, i64_w, i32_w]
                              rfl
                            refine pure_ (i := 5) (N := some 50) (v := ?_) (a' := ?_) #[true, true, true, true, true, true, false, false, false] rfl rfl (any_of HT_.out (by kernel_rfl)) (fun _ _ _ h => h) (Or.inl ⟨by rfl, ?_⟩) ?_ ?_
                            rotate_left
                            · intro w'
                              go_simp
                              with_reducible rfl
                            rotate_left
                            · simp only [Act.put, List.setIfInBounds_toArray, List.set_cons_zero, List.set_cons_succ, i64_w, i32_w]
                              rfl
                            refine pure_ (i := 6) (N := some 51) (v := ?_) (a' := ?_) #[true, true, true, true, true, true, true, false, false] rfl rfl (any_of HT_.out (by kernel_rfl)) (fun _ _ _ h => h) (Or.inl ⟨by rfl, ?_⟩) ?_ ?_
                            rotate_left
                            · intro w'
                              go_simp
                              with_reducible rfl
                            rotate_left
                            · simp only [Act.put, List.setIfInBounds_toArray, List.set_cons_zero, List.set_cons_succ, i64_w, i32_w]
                              rfl
                            refine one_ (i := 7) (N := some 52) #[true, true, true, true, true, true, true, true, false] rfl rfl (one_of HT_.out (by kernel_rfl)) (by decide) (fun K hK => ?_)
                            have hj_ : 0 ≤ ((ji23) : Int) := of_decide_eq_true (by first | (with_reducible assumption) | assumption)
                            have hl_ : (ji26 : Int) ≤ (y156.length : Int) := of_decide_eq_true (by first | (with_reducible assumption) | assumption)
                            have hh_ : ((ji23) : Int) ≤ (y156.length : Int) := of_decide_eq_true (by first | (with_reducible assumption) | assumption)
                            have hb_ := (Kd.R_reads' HO158.out).2.2.2.1
                            have h0_ : (0 : Int) ≤ (ji26 : Int) := of_decide_eq_true (by first | (with_reducible assumption) | assumption)
                            have hy1_ := KY47.out
                            have hk_ : (ji26 : Int).toNat = y159.length + 1 := (by have hw_ : (ji26 : Int) = (ji23) + 1 := (by have h00_ := h0_; rw [← hji26] at h00_ ⊢; unfold wrap64 at h00_ ⊢; omega); rw [hw_]; omega)
                            refine Kd.R_delete_step k28 (w0 := w) w.heap.size (by rfl) (.tmp 47) (.tmp 51) 24 28 rfl Try.underlying24 (by kernel_rfl) (g := go51) (n := y156.length) (c := co48) (k := y159.length) rfl rfl ?hA ?hm (by (with_reducible repeat (first | apply Kd.R_alloc | apply Kd.R_drewN | apply Kd.R_drew)); exact HO158.out) ?hk (by repeat (first | (with_reducible first | exact HB.out | apply below_alloc | apply pw_below_drewN | apply below_drew1) | exact HB.out)) (below_size (by repeat (first | (with_reducible first | exact HB.out | apply below_alloc | apply pw_below_drewN | apply below_drew1) | exact HB.out))) ?_
                            (case hA => have ha_ := KA49.out; rw [hk_] at ha_; exact ha_)
                            (case hm => have ha_ := KY49.out; omega)
                            (case hk => omega)
                            intro w50 ho hb hg
                            clear hj_ hl_ hh_ hb_ hk_ h0_
                            rw [hy1_, ← Ny167.out] at ho
                            clear hy1_
                            have hn_ : y156.length - 1 = y167.length := (by have := (Kd.R_reads' ho).1; omega)
                            rw [hn_] at ho ⊢
                            clear hn_
                            have n0_ := Aside0.mk (Kd.R_after (v := (.slice (some ⟨go51, 0, none⟩) y156.length co48)) (v1 := .slice (some ⟨go51, 0, none⟩) y167.length co48) (ok := (fun _ => True)) (by (with_reducible repeat (first | apply Kd.R_alloc | apply Kd.R_drewN | apply Kd.R_drew)); exact HO_8.out) hg (.inl rfl))
                            have n1_ := Aside0.mk (ho)
                            have n2_ := Aside0.mk (hb)
                            clear HO_8
                            clear HO158
                            clear HB
                            have HO_8 := n0_
                            have HO158 := n1_
                            have HB := n2_
                            clear n0_ n1_ n2_
                            clear ho hb hg
                            refine hK.out _ _ trivial (fun hHeld => ?_)
                            clear hK K
                            refine norm_ (a' := ?_) ?_ ?_
                            rotate_left
                            · show Act.put _ (some 52) _ = _
                              simp only [Act.put, List.setIfInBounds_toArray, List.set_cons_zero, List.set_cons_succ, i64_w, i32_w]
                              rfl
                            refine pure_ (i := 8) (N := some 10) (v := ?_) (a' := ?_) #[true, true, true, true, true, true, true, true, true] rfl rfl (any_of HT_.out (by kernel_rfl)) (fun _ _ _ h => h) (Or.inl ⟨by rfl, ?_⟩) ?_ ?_
                            rotate_left
                            · intro w'
                              go_simp
                              with_reducible rfl
                            rotate_left
                            · simp only [Act.put, List.setIfInBounds_toArray, List.set_cons_zero, List.set_cons_succ, i64_w, i32_w]
                              rfl
                            refine done_ (done_of HT_.out (by kernel_rfl)) ?_
                            try go_wp2
                            go_ret
                            exact ⟨by first | rfl | (simp [errW_none, errW_some] <;> rfl) | (simp only [← hji23, ← hji26]; first | rfl | (simp [errW_none, errW_some] <;> rfl)) | (simp [*, errW_none, errW_some] <;> rfl), by repeat (first | (with_reducible first | exact HB.out | apply below_alloc | apply pw_below_drewN | apply below_drew1) | exact HB.out)⟩
                        · rw [if_neg c28] at H
                          exact absurd H (by simp)
                      · rw [if_neg c27] at H
                        exact absurd H (by simp)
                    · rw [if_neg c25] at H
                      exact absurd H (by simp)
                  · rw [if_neg c24] at H
                    exact absurd H (by simp)
                · rw [if_neg c22] at H
                  have c22b0 : ((Go.bits .and .i64 a2 3) == 0) = false := beq_eq_false_iff_ne.mpr c22
                  have c22b1 : ((Go.bits .and .i64 a2 3) != 0) = true := bne_iff_ne.mpr c22
                  by_cases c52 : (Go.bits .and .i64 a2 3) = 1
                  · rw [if_pos c52] at H
                    have c52b0 : ((Go.bits .and .i64 a2 3) == 1) = true := beq_iff_eq.mpr c52
                    have c52b1 : ((Go.bits .and .i64 a2 3) != 1) = false := bne_eq_false_iff_eq.mpr c52
                    clear c52
                    obtain ⟨ji53, hji53⟩ : ∃ j_ : Int, (Int.tmod (wrap64 ((Int.tmod a1 (x8_5.length : Int)) + (x8_5.length : Int))) (x8_5.length : Int)) = j_ := ⟨_, rfl⟩
                    replace H : (if 0 ≤ (ji53) then (if (ji53) < (y156.length : Int) then (if ((rd_T28 y156 (ji53)).f1) > 1 then (if t145 = true then ((qpa_Test.f kj12 (y156.set ((ji53) : Int).toNat (⟨(rd_T28 y156 (ji53)).f0, wrap64 (((rd_T28 y156 (ji53)).f1) - 1), (rd_T28 y156 (ji53)).f2, (rd_T28 y156 (ji53)).f3, (rd_T28 y156 (ji53)).f4⟩ : S28))).bind fun t174 => (some (t174 == 0))) else (some false)) else (if t145 = true then ((qpa_Test.f kj12 y156).bind fun t175 => (some (t175 == 0))) else (some false))) else (none)) else (none)) = some r := by first | (rw [hji53] at H; exact H) | (simp only [hji53] at H ⊢; exact H)
                    by_cases c54 : 0 ≤ (ji53)
                    · rw [if_pos c54] at H
                      have c54b0 : decide (0 ≤ (ji53)) = true := decide_eq_true c54
                      clear c54
                      by_cases c55 : (ji53) < (y156.length : Int)
                      · rw [if_pos c55] at H
                        have c55b0 : decide ((ji53) < (y156.length : Int)) = true := decide_eq_true c55
                        clear c55
                        by_cases c56 : ((rd_T28 y156 (ji53)).f1) > 1
                        · rw [if_pos c56] at H
                          have c56b0 : decide (1 < ((rd_T28 y156 (ji53)).f1)) = true := decide_eq_true c56
                          clear c56
                          obtain ⟨y173, hy173⟩ : ∃ y_ : List (S28), y_ = (y156.set ((ji53) : Int).toNat (⟨(rd_T28 y156 (ji53)).f0, wrap64 (((rd_T28 y156 (ji53)).f1) - 1), (rd_T28 y156 (ji53)).f2, (rd_T28 y156 (ji53)).f3, (rd_T28 y156 (ji53)).f4⟩ : S28)) := ⟨_, rfl⟩
                          replace H : (if t145 = true then ((qpa_Test.f kj12 y173).bind fun t174 => (some (t174 == 0))) else (some false)) = some r := by first | (rw [hy173]; with_reducible exact H) | (have H2_ := (Option.bind_some _ _).symm.trans H; rw [hy173]; with_reducible exact H2_) | (have H2_ := (Option.bind_some _ _).symm.trans H; with_reducible exact H2_) | with_reducible exact H | (rw [hy173]; exact H) | exact H
                          have Ny173 := Aside0.mk hy173
                          clear hy173
                          by_cases c58 : t145 = true
                          · subst c58
                            have H1 : ((qpa_Test.f kj12 y173).bind fun t174 => (some (t174 == 0))) = some r := by rw [if_pos rfl] at H; exact H
                            clear H
                            have H := H1
                            clear H1
                            replace H := Option.bind_eq_some_iff.mp H
                            obtain ⟨t174, A590, H⟩ := H
                            replace H : (some (t174 == 0)) = some r := H
                            have A59 := Aside0.mk A590
                            clear A590
                            obtain rfl := Option.some.inj H
                            obtain ⟨Ao60, co60, eo60⟩ := Kd.R_slice HO_8.out
                            subst eo60
                            go_wp2_with (first | ((with_reducible refine gate_dst (N := 38) rfl ?_); refine Kd.R_lit k28 _ 28 ?hg (N := 38) ?hd (xs := ([] : List (S28))) (inner := []) (ok := fun _ => True) (okp := fun _ => True) ?hr ?hp (fun _ hk => hk) trivial (Below.refl _ _) (Nat.le_refl _) (by simp) ?_; (case hd => rfl); (case hg => rfl); (case hr => first | (go_simp; done) | (go_simp; rfl)); (case hp => exact (Reps.none _ _)); intro v154 w61 ho62 hb hg_ hnew_; clear hg_ hnew_; (first | rw [← Ny153.out] at ho62 | (simp only [Int.reduceToNat] at ho62; rw [← Ny153.out] at ho62)); have n0_ := Aside0.mk (Kd.R_elder' (by (with_reducible repeat (first | apply Kd.R_alloc | apply Kd.R_drewN | apply Kd.R_drew)); exact HO_8.out) (Kd.R_base ho62) hb); have n1_ := Aside0.mk (Kd.R_lower (Kd.R_new' ho62 (Kd.R_lt (by (with_reducible repeat (first | apply Kd.R_alloc | apply Kd.R_drewN | apply Kd.R_drew)); exact HO_8.out))) (below_size (by repeat (first | (with_reducible first | exact HB.out | apply below_alloc | apply pw_below_drewN | apply below_drew1) | exact HB.out)))); have n2_ := Aside0.mk (below_step (by repeat (first | (with_reducible first | exact HB.out | apply below_alloc | apply pw_below_drewN | apply below_drew1) | exact HB.out)) hb); clear HO_8; clear HB; have HO_8 := n0_; have HO155 := n1_; have HB := n2_; clear n0_ n1_ n2_; clear hb ho62) | ((with_reducible refine gate_builtin (b := .append) (xs := #[.tmp 38, .tmp 39]) rfl ?_); at_builtin; refine Kd.R_append_rows k28 (w0 := w) w.heap.size rfl (.tmp 38) (.tmp 39) 24 28 (.agg #[(.int .i64 0), (.int .i64 0), (.int .i64 0), (.int .i64 0), (.int .i64 0)]) 40 rfl Try.underlying24 info28 rfl (by decide) (by omega) v154 y153 x8_5 _ _ _ (fun k_ => some k_ ≠ (.slice Ao60 x8_5.length co60 : Value).ownBlock) (fun _ => False) rfl rfl ?aO ?aR (fun _ _ h => h) (fun _ h => h.elim) ?aF ?aB ?aS ?aL ?_; (case aR => repeat (first | exact (Kd.R_reads' HO_8.out).2.2 | (with_reducible refine Kd.C_alloc ?_ _) | (with_reducible refine Kd.C_drewN ?_ _) | (with_reducible refine Kd.C_drew ?_))); (case aB => exact (by repeat (first | (with_reducible first | exact HB.out | apply below_alloc | apply pw_below_drewN | apply below_drew1) | exact HB.out))); (case aF => exact (fun k_ hk => Kd.fresh' (Kd.R_lt (by (with_reducible repeat (first | apply Kd.R_alloc | apply Kd.R_drewN | apply Kd.R_drew)); exact HO_8.out)) k_ hk)); (case aO => exact (by (with_reducible repeat (first | apply Kd.R_alloc | apply Kd.R_drewN | apply Kd.R_drew)); exact Kd.R_mono HO155.out (fun _ hk => hk.2))); (case aS => exact (below_size (by repeat (first | (with_reducible first | exact HB.out | apply below_alloc | apply pw_below_drewN | apply below_drew1) | exact HB.out)))); (case aL => have := LMc21.out; omega); intro v157 w63 ho hb hg hat; rw [← Ny156.out] at ho; have n0_ := Aside0.mk (Kd.R_after (ok := (fun _ => True)) (by (with_reducible repeat (first | apply Kd.R_alloc | apply Kd.R_drewN | apply Kd.R_drew)); exact HO_8.out) hg hat); have n1_ := Aside0.mk (hb); have n2_ := Aside0.mk (ho); clear HO_8; clear HB; clear HO155; have HO_8 := n0_; have HB := n1_; have HO158 := n2_; clear n0_ n1_ n2_; clear ho hb hg hat; obtain ⟨Ao64, co64, eo64⟩ := Kd.R_slice HO158.out; subst eo64; have p171 : 0 ≤ ((ji53) : Int) := of_decide_eq_true (by first | (with_reducible assumption) | assumption); have q171 : (ji53) < (y156.length : Int) := of_decide_eq_true (by first | (with_reducible assumption) | assumption); obtain ⟨ad171, e171, hx171_0, hx171_1, hx171_2, hx171_3, hx171_4⟩ := at_T28 (Kd.R_reads' HO158.out).2.2 (ji53) p171 q171; cases e171; replace p171 := eq_true p171; replace q171 := eq_true q171; have p172 : 0 ≤ ((ji53) : Int) := of_decide_eq_true (by first | (with_reducible assumption) | assumption); have q172 : (ji53) < (y156.length : Int) := of_decide_eq_true (by first | (with_reducible assumption) | assumption); obtain ⟨ad172, e172, hx172_0, hx172_1, hx172_2, hx172_3, hx172_4⟩ := at_T28 (Kd.R_reads' HO158.out).2.2 (ji53) p172 q172; obtain rfl : ad171 = ad172 := (by injection e172); replace p172 := eq_true p172; replace q172 := eq_true q172; have p57 : 0 ≤ ((ji53) : Int) := of_decide_eq_true (by first | (with_reducible assumption) | assumption); have q57 : ((ji53) : Int) < ((y156.length : Int) : Int) := of_decide_eq_true (by first | (with_reducible assumption) | assumption); obtain ⟨go57, co57, eo57, gb57, gl57, cl57, HG57⟩ := Kd.R_form HO158.out (by omega); (first | cases eo57 | (injection eo57 with ea_ en_ ec_; (first | subst ea_ | (injection ea_ with ea_; subst ea_)); subst ec_; clear en_)); have GB57 := Aside0.mk gb57; have GG57 := Aside0.mk HG57; clear gb57 gl57 HG57; (first | simp only [add_plain] at hx171_0 | skip); (first | simp only [add_plain] at hx171_1 | skip); (first | simp only [add_plain] at hx171_2 | skip); (first | simp only [add_plain] at hx171_3 | skip); (first | simp only [add_plain] at hx171_4 | skip); (first | simp only [add_plain] at hx172_0 | skip); (first | simp only [add_plain] at hx172_1 | skip); (first | simp only [add_plain] at hx172_2 | skip); (first | simp only [add_plain] at hx172_3 | skip); (first | simp only [add_plain] at hx172_4 | skip); obtain ⟨ce57, hcl57, hM57, hcc57, hfr57⟩ := Kd.R_elem HO158.out z28 ((ji53) : Int) p57 q57; obtain rfl := k28_openM hM57; have hx57_0 : w63.cell? ⟨go57, ((ji53) : Int).toNat * 5, none⟩ = some (.int .i64 ((rd_T28 y156 (ji53)).f0)) := hcc57 0 _ rfl; have hx57_1 : w63.cell? ⟨go57, ((ji53) : Int).toNat * 5 + 1, none⟩ = some (.int .i64 ((rd_T28 y156 (ji53)).f1)) := hcc57 1 _ rfl; have hx57_2 : w63.cell? ⟨go57, ((ji53) : Int).toNat * 5 + 2, none⟩ = some (.int .i64 ((rd_T28 y156 (ji53)).f2)) := hcc57 2 _ rfl; have hx57_3 : w63.cell? ⟨go57, ((ji53) : Int).toNat * 5 + 3, none⟩ = some (.int .i64 ((rd_T28 y156 (ji53)).f3)) := hcc57 3 _ rfl; have hx57_4 : w63.cell? ⟨go57, ((ji53) : Int).toNat * 5 + 4, none⟩ = some (.int .i64 ((rd_T28 y156 (ji53)).f4)) := hcc57 4 _ rfl; have hf57_0 : w63.frozen? ⟨go57, ((ji53) : Int).toNat * 5, none⟩ = false := hfr57 0; have hf57_1 : w63.frozen? ⟨go57, ((ji53) : Int).toNat * 5 + 1, none⟩ = false := hfr57 1; have hf57_2 : w63.frozen? ⟨go57, ((ji53) : Int).toNat * 5 + 2, none⟩ = false := hfr57 2; have hf57_3 : w63.frozen? ⟨go57, ((ji53) : Int).toNat * 5 + 3, none⟩ = false := hfr57 3; have hf57_4 : w63.frozen? ⟨go57, ((ji53) : Int).toNat * 5 + 4, none⟩ = false := hfr57 4; clear hcl57 hcc57 hfr57 hM57; replace p57 := eq_true p57; replace q57 := eq_true q57; have HX65 := Aside0.mk (show Kd.R k28 28 w63 w.heap.size (fun k_ => some k_ ≠ (.slice Ao60 x8_5.length co60 : Value).ownBlock) (.slice (some ⟨go57, 0, none⟩) y156.length co64) y156 from (by (with_reducible repeat (first | apply Kd.R_alloc | apply Kd.R_drewN | apply Kd.R_drew)); exact HO158.out)); obtain ⟨ce65, hcl65, hM65, hcc65, hfr65⟩ := Kd.R_elem HX65.out z28 ((ji53) : Int) (of_decide_eq_true (by first | (with_reducible assumption) | assumption)) (by have h_ : ((ji53) : Int) < ((y156.length : Int) : Int) := of_decide_eq_true (by first | (with_reducible assumption) | assumption); first | exact h_ | (have e_ := (Kd.R_reads' HO158.out).1; omega) | simpa using h_); obtain rfl := k28_openM hM65; have HP65 := Kd.R_seg HX65.out ((ji53) : Int) (of_decide_eq_true (by first | (with_reducible assumption) | assumption)) (by have h_ : ((ji53) : Int) < ((y156.length : Int) : Int) := of_decide_eq_true (by first | (with_reducible assumption) | assumption); first | exact h_ | (have e_ := (Kd.R_reads' HO158.out).1; omega) | simpa using h_) (seg := [.int .i64 (wrap64 (((rd_T28 y156 (ji53)).f1) - 1))]) (j := 1) hcl65 hcc65 (show 2 ≤ 5 from by decide) (x' := (⟨(rd_T28 y156 (ji53)).f0, wrap64 (((rd_T28 y156 (ji53)).f1) - 1), (rd_T28 y156 (ji53)).f2, (rd_T28 y156 (ji53)).f3, (rd_T28 y156 (ji53)).f4⟩ : S28)) (k28_mkM _ _ _ (⟨(rd_T28 y156 (ji53)).f0, wrap64 (((rd_T28 y156 (ji53)).f1) - 1), (rd_T28 y156 (ji53)).f2, (rd_T28 y156 (ji53)).f3, (rd_T28 y156 (ji53)).f4⟩ : S28) ) (fun _ hk => hk); have hx65_1 := hcc65 1 _ rfl; (try simp only [show (k28).sz = 5 from rfl, Nat.mul_one, Nat.add_zero] at hx65_1); have hf65_1 := hfr65 1; (try simp only [show (k28).sz = 5 from rfl, Nat.mul_one, Nat.add_zero] at hf65_1); clear hcl65 hcc65 hfr65 hM65) | ((with_reducible refine gate_store (t := 2) (p := 68) rfl ?_); refine store_event (t := 2) (p := 68) (v := ?vo_w66) (w1 := (w63.setCell ⟨go57, ((ji53) : Int).toNat * 5 + 1, none⟩ (.int .i64 (wrap64 (((rd_T28 y156 (ji53)).f1) - 1))))) ?hg ?ho ?hn ?hr ?_; (case ho => rfl); (case hg => rfl); (case hn => rfl); (case hr => first | (go_simp; done) | (go_simp; rfl)); intro w66 hw; have hg : w63.grownBy w66 (some go57) := (by rw [hw]; exact HP65.2); have hp_ : Kd.R k28 28 w66 w.heap.size (fun k_ => some k_ ≠ (.slice Ao60 x8_5.length co60 : Value).ownBlock) (.slice (some ⟨go57, 0, none⟩) y156.length co64) y173 := (by rw [hw, Ny173.out]; exact HP65.1); clear HP65; have n0_ := Aside0.mk (Kd.R_after (v := (.slice (some ⟨go57, 0, none⟩) y156.length co64)) (v1 := (.slice (some ⟨go57, 0, none⟩) y156.length co64)) (ok := (fun _ => True)) (by (with_reducible repeat (first | apply Kd.R_alloc | apply Kd.R_drewN | apply Kd.R_drew)); exact HO_8.out) hg (.inl rfl)); have n1_ := Aside0.mk (hp_); have n2_ := Aside0.mk ((by rw [hw]; exact below_set (HB.out) GB57.out : Below w.heap.size w w66)); clear HO_8; clear HO158; clear HB; have HO_8 := n0_; have HO158 := n1_; have HB := n2_; clear n0_ n1_ n2_; clear hg hw hp_) | (go_at_call 29; refine calls_of_args (args' := #[.slice (some ⟨go57, 0, none⟩) y173.length co64]) (by first | (rw [show y173.length = y156.length from (Kd.R_reads' HO158.out).1.symm] <;> rfl) | rfl) ?_; (with_reducible refine (qpa_Test.calls kj12 _ _ y173 t174 _ ?side1 ?side2 A59.out).mono ?_); (case side1 => repeat (first | exact (Kd.R_reads' HO158.out).2.2 | (with_reducible refine Kd.C_alloc ?_ _) | (with_reducible refine Kd.C_drewN ?_ _) | (with_reducible refine Kd.C_drew ?_))); (case side2 => rw [show y173.length = y156.length from (Kd.R_reads' HO158.out).1.symm]; exact (Kd.R_reads' HO158.out).2.1); rintro e w67 ⟨rfl, hb⟩; have n0_ := Aside0.mk (Kd.R_below (by (with_reducible repeat (first | apply Kd.R_alloc | apply Kd.R_drewN | apply Kd.R_drew)); exact HO_8.out) hb); have n1_ := Aside0.mk (Kd.R_below (by (with_reducible repeat (first | apply Kd.R_alloc | apply Kd.R_drewN | apply Kd.R_drew)); exact HO158.out) hb); have n2_ := Aside0.mk (below_step (by repeat (first | (with_reducible first | exact HB.out | apply below_alloc | apply pw_below_drewN | apply below_drew1) | exact HB.out)) hb); clear HO_8; clear HO158; clear HB; have HO_8 := n0_; have HO158 := n1_; have HB := n2_; clear n0_ n1_ n2_; (try clear hb); (try clear hb2); (try clear hk); (try clear hi)))
                            go_ret
                            exact ⟨by first | rfl | (simp [errW_none, errW_some] <;> rfl) | (simp only [← hji53]; first | rfl | (simp [errW_none, errW_some] <;> rfl)) | (simp [*, errW_none, errW_some] <;> rfl), by repeat (first | (with_reducible first | exact HB.out | apply below_alloc | apply pw_below_drewN | apply below_drew1) | exact HB.out)⟩
                          · replace c58 := Bool.eq_false_iff.mpr c58
                            subst c58
                            have H1 : (some false) = some r := by rw [if_neg (show ¬ (false = true) by decide)] at H; exact H
                            clear H
                            have H := H1
                            clear H1
                            obtain rfl := Option.some.inj H
                            obtain ⟨Ao68, co68, eo68⟩ := Kd.R_slice HO_8.out
                            subst eo68
                            go_wp2_with (first | ((with_reducible refine gate_dst (N := 38) rfl ?_); refine Kd.R_lit k28 _ 28 ?hg (N := 38) ?hd (xs := ([] : List (S28))) (inner := []) (ok := fun _ => True) (okp := fun _ => True) ?hr ?hp (fun _ hk => hk) trivial (Below.refl _ _) (Nat.le_refl _) (by simp) ?_; (case hd => rfl); (case hg => rfl); (case hr => first | (go_simp; done) | (go_simp; rfl)); (case hp => exact (Reps.none _ _)); intro v154 w69 ho70 hb hg_ hnew_; clear hg_ hnew_; (first | rw [← Ny153.out] at ho70 | (simp only [Int.reduceToNat] at ho70; rw [← Ny153.out] at ho70)); have n0_ := Aside0.mk (Kd.R_elder' (by (with_reducible repeat (first | apply Kd.R_alloc | apply Kd.R_drewN | apply Kd.R_drew)); exact HO_8.out) (Kd.R_base ho70) hb); have n1_ := Aside0.mk (Kd.R_lower (Kd.R_new' ho70 (Kd.R_lt (by (with_reducible repeat (first | apply Kd.R_alloc | apply Kd.R_drewN | apply Kd.R_drew)); exact HO_8.out))) (below_size (by repeat (first | (with_reducible first | exact HB.out | apply below_alloc | apply pw_below_drewN | apply below_drew1) | exact HB.out)))); have n2_ := Aside0.mk (below_step (by repeat (first | (with_reducible first | exact HB.out | apply below_alloc | apply pw_below_drewN | apply below_drew1) | exact HB.out)) hb); clear HO_8; clear HB; have HO_8 := n0_; have HO155 := n1_; have HB := n2_; clear n0_ n1_ n2_; clear hb ho70) | ((with_reducible refine gate_builtin (b := .append) (xs := #[.tmp 38, .tmp 39]) rfl ?_); at_builtin; refine Kd.R_append_rows k28 (w0 := w) w.heap.size rfl (.tmp 38) (.tmp 39) 24 28 (.agg #[(.int .i64 0), (.int .i64 0), (.int .i64 0), (.int .i64 0), (.int .i64 0)]) 40 rfl Try.underlying24 info28 rfl (by decide) (by omega) v154 y153 x8_5 _ _ _ (fun k_ => some k_ ≠ (.slice Ao68 x8_5.length co68 : Value).ownBlock) (fun _ => False) rfl rfl ?aO ?aR (fun _ _ h => h) (fun _ h => h.elim) ?aF ?aB ?aS ?aL ?_; (case aR => repeat (first | exact (Kd.R_reads' HO_8.out).2.2 | (with_reducible refine Kd.C_alloc ?_ _) | (with_reducible refine Kd.C_drewN ?_ _) | (with_reducible refine Kd.C_drew ?_))); (case aB => exact (by repeat (first | (with_reducible first | exact HB.out | apply below_alloc | apply pw_below_drewN | apply below_drew1) | exact HB.out))); (case aF => exact (fun k_ hk => Kd.fresh' (Kd.R_lt (by (with_reducible repeat (first | apply Kd.R_alloc | apply Kd.R_drewN | apply Kd.R_drew)); exact HO_8.out)) k_ hk)); (case aO => exact (by (with_reducible repeat (first | apply Kd.R_alloc | apply Kd.R_drewN | apply Kd.R_drew)); exact Kd.R_mono HO155.out (fun _ hk => hk.2))); (case aS => exact (below_size (by repeat (first | (with_reducible first | exact HB.out | apply below_alloc | apply pw_below_drewN | apply below_drew1) | exact HB.out)))); (case aL => have := LMc21.out; omega); intro v157 w71 ho hb hg hat; rw [← Ny156.out] at ho; have n0_ := Aside0.mk (Kd.R_after (ok := (fun _ => True)) (by (with_reducible repeat (first | apply Kd.R_alloc | apply Kd.R_drewN | apply Kd.R_drew)); exact HO_8.out) hg hat); have n1_ := Aside0.mk (hb); have n2_ := Aside0.mk (ho); clear HO_8; clear HB; clear HO155; have HO_8 := n0_; have HB := n1_; have HO158 := n2_; clear n0_ n1_ n2_; clear ho hb hg hat; obtain ⟨Ao72, co72, eo72⟩ := Kd.R_slice HO158.out; subst eo72; have p171 : 0 ≤ ((ji53) : Int) := of_decide_eq_true (by first | (with_reducible assumption) | assumption); have q171 : (ji53) < (y156.length : Int) := of_decide_eq_true (by first | (with_reducible assumption) | assumption); obtain ⟨ad171, e171, hx171_0, hx171_1, hx171_2, hx171_3, hx171_4⟩ := at_T28 (Kd.R_reads' HO158.out).2.2 (ji53) p171 q171; cases e171; replace p171 := eq_true p171; replace q171 := eq_true q171; have p172 : 0 ≤ ((ji53) : Int) := of_decide_eq_true (by first | (with_reducible assumption) | assumption); have q172 : (ji53) < (y156.length : Int) := of_decide_eq_true (by first | (with_reducible assumption) | assumption); obtain ⟨ad172, e172, hx172_0, hx172_1, hx172_2, hx172_3, hx172_4⟩ := at_T28 (Kd.R_reads' HO158.out).2.2 (ji53) p172 q172; obtain rfl : ad171 = ad172 := (by injection e172); replace p172 := eq_true p172; replace q172 := eq_true q172; have p57 : 0 ≤ ((ji53) : Int) := of_decide_eq_true (by first | (with_reducible assumption) | assumption); have q57 : ((ji53) : Int) < ((y156.length : Int) : Int) := of_decide_eq_true (by first | (with_reducible assumption) | assumption); obtain ⟨go57, co57, eo57, gb57, gl57, cl57, HG57⟩ := Kd.R_form HO158.out (by omega); (first | cases eo57 | (injection eo57 with ea_ en_ ec_; (first | subst ea_ | (injection ea_ with ea_; subst ea_)); subst ec_; clear en_)); have GB57 := Aside0.mk gb57; have GG57 := Aside0.mk HG57; clear gb57 gl57 HG57; (first | simp only [add_plain] at hx171_0 | skip); (first | simp only [add_plain] at hx171_1 | skip); (first | simp only [add_plain] at hx171_2 | skip); (first | simp only [add_plain] at hx171_3 | skip); (first | simp only [add_plain] at hx171_4 | skip); (first | simp only [add_plain] at hx172_0 | skip); (first | simp only [add_plain] at hx172_1 | skip); (first | simp only [add_plain] at hx172_2 | skip); (first | simp only [add_plain] at hx172_3 | skip); (first | simp only [add_plain] at hx172_4 | skip); obtain ⟨ce57, hcl57, hM57, hcc57, hfr57⟩ := Kd.R_elem HO158.out z28 ((ji53) : Int) p57 q57; obtain rfl := k28_openM hM57; have hx57_0 : w71.cell? ⟨go57, ((ji53) : Int).toNat * 5, none⟩ = some (.int .i64 ((rd_T28 y156 (ji53)).f0)) := hcc57 0 _ rfl; have hx57_1 : w71.cell? ⟨go57, ((ji53) : Int).toNat * 5 + 1, none⟩ = some (.int .i64 ((rd_T28 y156 (ji53)).f1)) := hcc57 1 _ rfl; have hx57_2 : w71.cell? ⟨go57, ((ji53) : Int).toNat * 5 + 2, none⟩ = some (.int .i64 ((rd_T28 y156 (ji53)).f2)) := hcc57 2 _ rfl; have hx57_3 : w71.cell? ⟨go57, ((ji53) : Int).toNat * 5 + 3, none⟩ = some (.int .i64 ((rd_T28 y156 (ji53)).f3)) := hcc57 3 _ rfl; have hx57_4 : w71.cell? ⟨go57, ((ji53) : Int).toNat * 5 + 4, none⟩ = some (.int .i64 ((rd_T28 y156 (ji53)).f4)) := hcc57 4 _ rfl; have hf57_0 : w71.frozen? ⟨go57, ((ji53) : Int).toNat * 5, none⟩ = false := hfr57 0; have hf57_1 : w71.frozen? ⟨go57, ((ji53) : Int).toNat * 5 + 1, none⟩ = false := hfr57 1; have hf57_2 : w71.frozen? ⟨go57, ((ji53) : Int).toNat * 5 + 2, none⟩ = false := hfr57 2; have hf57_3 : w71.frozen? ⟨go57, ((ji53) : Int).toNat * 5 + 3, none⟩ = false := hfr57 3; have hf57_4 : w71.frozen? ⟨go57, ((ji53) : Int).toNat * 5 + 4, none⟩ = false := hfr57 4; clear hcl57 hcc57 hfr57 hM57; replace p57 := eq_true p57; replace q57 := eq_true q57; have HX73 := Aside0.mk (show Kd.R k28 28 w71 w.heap.size (fun k_ => some k_ ≠ (.slice Ao68 x8_5.length co68 : Value).ownBlock) (.slice (some ⟨go57, 0, none⟩) y156.length co72) y156 from (by (with_reducible repeat (first | apply Kd.R_alloc | apply Kd.R_drewN | apply Kd.R_drew)); exact HO158.out)); obtain ⟨ce73, hcl73, hM73, hcc73, hfr73⟩ := Kd.R_elem HX73.out z28 ((ji53) : Int) (of_decide_eq_true (by first | (with_reducible assumption) | assumption)) (by have h_ : ((ji53) : Int) < ((y156.length : Int) : Int) := of_decide_eq_true (by first | (with_reducible assumption) | assumption); first | exact h_ | (have e_ := (Kd.R_reads' HO158.out).1; omega) | simpa using h_); obtain rfl := k28_openM hM73; have HP73 := Kd.R_seg HX73.out ((ji53) : Int) (of_decide_eq_true (by first | (with_reducible assumption) | assumption)) (by have h_ : ((ji53) : Int) < ((y156.length : Int) : Int) := of_decide_eq_true (by first | (with_reducible assumption) | assumption); first | exact h_ | (have e_ := (Kd.R_reads' HO158.out).1; omega) | simpa using h_) (seg := [.int .i64 (wrap64 (((rd_T28 y156 (ji53)).f1) - 1))]) (j := 1) hcl73 hcc73 (show 2 ≤ 5 from by decide) (x' := (⟨(rd_T28 y156 (ji53)).f0, wrap64 (((rd_T28 y156 (ji53)).f1) - 1), (rd_T28 y156 (ji53)).f2, (rd_T28 y156 (ji53)).f3, (rd_T28 y156 (ji53)).f4⟩ : S28)) (k28_mkM _ _ _ (⟨(rd_T28 y156 (ji53)).f0, wrap64 (((rd_T28 y156 (ji53)).f1) - 1), (rd_T28 y156 (ji53)).f2, (rd_T28 y156 (ji53)).f3, (rd_T28 y156 (ji53)).f4⟩ : S28) ) (fun _ hk => hk); have hx73_1 := hcc73 1 _ rfl; (try simp only [show (k28).sz = 5 from rfl, Nat.mul_one, Nat.add_zero] at hx73_1); have hf73_1 := hfr73 1; (try simp only [show (k28).sz = 5 from rfl, Nat.mul_one, Nat.add_zero] at hf73_1); clear hcl73 hcc73 hfr73 hM73) | ((with_reducible refine gate_store (t := 2) (p := 68) rfl ?_); refine store_event (t := 2) (p := 68) (v := ?vo_w74) (w1 := (w71.setCell ⟨go57, ((ji53) : Int).toNat * 5 + 1, none⟩ (.int .i64 (wrap64 (((rd_T28 y156 (ji53)).f1) - 1))))) ?hg ?ho ?hn ?hr ?_; (case ho => rfl); (case hg => rfl); (case hn => rfl); (case hr => first | (go_simp; done) | (go_simp; rfl)); intro w74 hw; have hg : w71.grownBy w74 (some go57) := (by rw [hw]; exact HP73.2); have hp_ : Kd.R k28 28 w74 w.heap.size (fun k_ => some k_ ≠ (.slice Ao68 x8_5.length co68 : Value).ownBlock) (.slice (some ⟨go57, 0, none⟩) y156.length co72) y173 := (by rw [hw, Ny173.out]; exact HP73.1); clear HP73; have n0_ := Aside0.mk (Kd.R_after (v := (.slice (some ⟨go57, 0, none⟩) y156.length co72)) (v1 := (.slice (some ⟨go57, 0, none⟩) y156.length co72)) (ok := (fun _ => True)) (by (with_reducible repeat (first | apply Kd.R_alloc | apply Kd.R_drewN | apply Kd.R_drew)); exact HO_8.out) hg (.inl rfl)); have n1_ := Aside0.mk (hp_); have n2_ := Aside0.mk ((by rw [hw]; exact below_set (HB.out) GB57.out : Below w.heap.size w w74)); clear HO_8; clear HO158; clear HB; have HO_8 := n0_; have HO158 := n1_; have HB := n2_; clear n0_ n1_ n2_; clear hg hw hp_))
                            go_ret
                            exact ⟨by first | rfl | (simp [errW_none, errW_some] <;> rfl) | (simp only [← hji53]; first | rfl | (simp [errW_none, errW_some] <;> rfl)) | (simp [*, errW_none, errW_some] <;> rfl), by repeat (first | (with_reducible first | exact HB.out | apply below_alloc | apply pw_below_drewN | apply below_drew1) | exact HB.out)⟩
                        · rw [if_neg c56] at H
                          have c56b0 : decide (1 < ((rd_T28 y156 (ji53)).f1)) = false := decide_eq_false c56
                          clear c56
                          by_cases c75 : t145 = true
                          · subst c75
                            have H1 : ((qpa_Test.f kj12 y156).bind fun t175 => (some (t175 == 0))) = some r := by rw [if_pos rfl] at H; exact H
                            clear H
                            have H := H1
                            clear H1
                            replace H := Option.bind_eq_some_iff.mp H
                            obtain ⟨t175, A760, H⟩ := H
                            replace H : (some (t175 == 0)) = some r := H
                            have A76 := Aside0.mk A760
                            clear A760
                            obtain rfl := Option.some.inj H
                            obtain ⟨Ao77, co77, eo77⟩ := Kd.R_slice HO_8.out
                            subst eo77
                            go_wp2_with (first | ((with_reducible refine gate_dst (N := 38) rfl ?_); refine Kd.R_lit k28 _ 28 ?hg (N := 38) ?hd (xs := ([] : List (S28))) (inner := []) (ok := fun _ => True) (okp := fun _ => True) ?hr ?hp (fun _ hk => hk) trivial (Below.refl _ _) (Nat.le_refl _) (by simp) ?_; (case hd => rfl); (case hg => rfl); (case hr => first | (go_simp; done) | (go_simp; rfl)); (case hp => exact (Reps.none _ _)); intro v154 w78 ho79 hb hg_ hnew_; clear hg_ hnew_; (first | rw [← Ny153.out] at ho79 | (simp only [Int.reduceToNat] at ho79; rw [← Ny153.out] at ho79)); have n0_ := Aside0.mk (Kd.R_elder' (by (with_reducible repeat (first | apply Kd.R_alloc | apply Kd.R_drewN | apply Kd.R_drew)); exact HO_8.out) (Kd.R_base ho79) hb); have n1_ := Aside0.mk (Kd.R_lower (Kd.R_new' ho79 (Kd.R_lt (by (with_reducible repeat (first | apply Kd.R_alloc | apply Kd.R_drewN | apply Kd.R_drew)); exact HO_8.out))) (below_size (by repeat (first | (with_reducible first | exact HB.out | apply below_alloc | apply pw_below_drewN | apply below_drew1) | exact HB.out)))); have n2_ := Aside0.mk (below_step (by repeat (first | (with_reducible first | exact HB.out | apply below_alloc | apply pw_below_drewN | apply below_drew1) | exact HB.out)) hb); clear HO_8; clear HB; have HO_8 := n0_; have HO155 := n1_; have HB := n2_; clear n0_ n1_ n2_; clear hb ho79) | ((with_reducible refine gate_builtin (b := .append) (xs := #[.tmp 38, .tmp 39]) rfl ?_); at_builtin; refine Kd.R_append_rows k28 (w0 := w) w.heap.size rfl (.tmp 38) (.tmp 39) 24 28 (.agg #[(.int .i64 0), (.int .i64 0), (.int .i64 0), (.int .i64 0), (.int .i64 0)]) 40 rfl Try.underlying24 info28 rfl (by decide) (by omega) v154 y153 x8_5 _ _ _ (fun k_ => some k_ ≠ (.slice Ao77 x8_5.length co77 : Value).ownBlock) (fun _ => False) rfl rfl ?aO ?aR (fun _ _ h => h) (fun _ h => h.elim) ?aF ?aB ?aS ?aL ?_; (case aR => repeat (first | exact (Kd.R_reads' HO_8.out).2.2 | (with_reducible refine Kd.C_alloc ?_ _) | (with_reducible refine Kd.C_drewN ?_ _) | (with_reducible refine Kd.C_drew ?_))); (case aB => exact (by repeat (first | (with_reducible first | exact HB.out | apply below_alloc | apply pw_below_drewN | apply below_drew1) | exact HB.out))); (case aF => exact (fun k_ hk => Kd.fresh' (Kd.R_lt (by (with_reducible repeat (first | apply Kd.R_alloc | apply Kd.R_drewN | apply Kd.R_drew)); exact HO_8.out)) k_ hk)); (case aO => exact (by (with_reducible repeat (first | apply Kd.R_alloc | apply Kd.R_drewN | apply Kd.R_drew)); exact Kd.R_mono HO155.out (fun _ hk => hk.2))); (case aS => exact (below_size (by repeat (first | (with_reducible first | exact HB.out | apply below_alloc | apply pw_below_drewN | apply below_drew1) | exact HB.out)))); (case aL => have := LMc21.out; omega); intro v157 w80 ho hb hg hat; rw [← Ny156.out] at ho; have n0_ := Aside0.mk (Kd.R_after (ok := (fun _ => True)) (by (with_reducible repeat (first | apply Kd.R_alloc | apply Kd.R_drewN | apply Kd.R_drew)); exact HO_8.out) hg hat); have n1_ := Aside0.mk (hb); have n2_ := Aside0.mk (ho); clear HO_8; clear HB; clear HO155; have HO_8 := n0_; have HB := n1_; have HO158 := n2_; clear n0_ n1_ n2_; clear ho hb hg hat; obtain ⟨Ao81, co81, eo81⟩ := Kd.R_slice HO158.out; subst eo81; have p171 : 0 ≤ ((ji53) : Int) := of_decide_eq_true (by first | (with_reducible assumption) | assumption); have q171 : (ji53) < (y156.length : Int) := of_decide_eq_true (by first | (with_reducible assumption) | assumption); obtain ⟨ad171, e171, hx171_0, hx171_1, hx171_2, hx171_3, hx171_4⟩ := at_T28 (Kd.R_reads' HO158.out).2.2 (ji53) p171 q171; cases e171; replace p171 := eq_true p171; replace q171 := eq_true q171) | (go_at_call 29; (with_reducible refine (qpa_Test.calls kj12 _ _ y156 t175 _ ?side1 ?side2 A76.out).mono ?_); (case side1 => repeat (first | exact (Kd.R_reads' HO158.out).2.2 | (with_reducible refine Kd.C_alloc ?_ _) | (with_reducible refine Kd.C_drewN ?_ _) | (with_reducible refine Kd.C_drew ?_))); (case side2 => exact (Kd.R_reads' HO158.out).2.1); rintro e w82 ⟨rfl, hb⟩; have n0_ := Aside0.mk (Kd.R_below (by (with_reducible repeat (first | apply Kd.R_alloc | apply Kd.R_drewN | apply Kd.R_drew)); exact HO_8.out) hb); have n1_ := Aside0.mk (Kd.R_below (by (with_reducible repeat (first | apply Kd.R_alloc | apply Kd.R_drewN | apply Kd.R_drew)); exact HO158.out) hb); have n2_ := Aside0.mk (below_step (by repeat (first | (with_reducible first | exact HB.out | apply below_alloc | apply pw_below_drewN | apply below_drew1) | exact HB.out)) hb); clear HO_8; clear HO158; clear HB; have HO_8 := n0_; have HO158 := n1_; have HB := n2_; clear n0_ n1_ n2_; (try clear hb); (try clear hb2); (try clear hk); (try clear hi)))
                            go_ret
                            exact ⟨by first | rfl | (simp [errW_none, errW_some] <;> rfl) | (simp only [← hji53]; first | rfl | (simp [errW_none, errW_some] <;> rfl)) | (simp [*, errW_none, errW_some] <;> rfl), by repeat (first | (with_reducible first | exact HB.out | apply below_alloc | apply pw_below_drewN | apply below_drew1) | exact HB.out)⟩
                          · replace c75 := Bool.eq_false_iff.mpr c75
                            subst c75
                            have H1 : (some false) = some r := by rw [if_neg (show ¬ (false = true) by decide)] at H; exact H
                            clear H
                            have H := H1
                            clear H1
                            obtain rfl := Option.some.inj H
                            obtain ⟨Ao83, co83, eo83⟩ := Kd.R_slice HO_8.out
                            subst eo83
                            go_wp2_with (first | ((with_reducible refine gate_dst (N := 38) rfl ?_); refine Kd.R_lit k28 _ 28 ?hg (N := 38) ?hd (xs := ([] : List (S28))) (inner := []) (ok := fun _ => True) (okp := fun _ => True) ?hr ?hp (fun _ hk => hk) trivial (Below.refl _ _) (Nat.le_refl _) (by simp) ?_; (case hd => rfl); (case hg => rfl); (case hr => first | (go_simp; done) | (go_simp; rfl)); (case hp => exact (Reps.none _ _)); intro v154 w84 ho85 hb hg_ hnew_; clear hg_ hnew_; (first | rw [← Ny153.out] at ho85 | (simp only [Int.reduceToNat] at ho85; rw [← Ny153.out] at ho85)); have n0_ := Aside0.mk (Kd.R_elder' (by (with_reducible repeat (first | apply Kd.R_alloc | apply Kd.R_drewN | apply Kd.R_drew)); exact HO_8.out) (Kd.R_base ho85) hb); have n1_ := Aside0.mk (Kd.R_lower (Kd.R_new' ho85 (Kd.R_lt (by (with_reducible repeat (first | apply Kd.R_alloc | apply Kd.R_drewN | apply Kd.R_drew)); exact HO_8.out))) (below_size (by repeat (first | (with_reducible first | exact HB.out | apply below_alloc | apply pw_below_drewN | apply below_drew1) | exact HB.out)))); have n2_ := Aside0.mk (below_step (by repeat (first | (with_reducible first | exact HB.out | apply below_alloc | apply pw_below_drewN | apply below_drew1) | exact HB.out)) hb); clear HO_8; clear HB; have HO_8 := n0_; have HO155 := n1_; have HB := n2_; clear n0_ n1_ n2_; clear hb ho85) | ((with_reducible refine gate_builtin (b := .append) (xs := #[.tmp 38, .tmp 39]) rfl ?_); at_builtin; refine Kd.R_append_rows k28 (w0 := w) w.heap.size rfl (.tmp 38) (.tmp 39) 24 28 (.agg #[(.int .i64 0), (.int .i64 0), (.int .i64 0), (.int .i64 0), (.int .i64 0)]) 40 rfl Try.underlying24 info28 rfl (by decide) (by omega) v154 y153 x8_5 _ _ _ (fun k_ => some k_ ≠ (.slice Ao83 x8_5.length co83 : Value).ownBlock) (fun _ => False) rfl rfl ?aO ?aR (fun _ _ h => h) (fun _ h => h.elim) ?aF ?aB ?aS ?aL ?_; (case aR => repeat (first | exact (Kd.R_reads' HO_8.out).2.2 | (with_reducible refine Kd.C_alloc ?_ _) | (with_reducible refine Kd.C_drewN ?_ _) | (with_reducible refine Kd.C_drew ?_))); (case aB => exact (by repeat (first | (with_reducible first | exact HB.out | apply below_alloc | apply pw_below_drewN | apply below_drew1) | exact HB.out))); (case aF => exact (fun k_ hk => Kd.fresh' (Kd.R_lt (by (with_reducible repeat (first | apply Kd.R_alloc | apply Kd.R_drewN | apply Kd.R_drew)); exact HO_8.out)) k_ hk)); (case aO => exact (by (with_reducible repeat (first | apply Kd.R_alloc | apply Kd.R_drewN | apply Kd.R_drew)); exact Kd.R_mono HO155.out (fun _ hk => hk.2))); (case aS => exact (below_size (by repeat (first | (with_reducible first | exact HB.out | apply below_alloc | apply pw_below_drewN | apply below_drew1) | exact HB.out)))); (case aL => have := LMc21.out; omega); intro v157 w86 ho hb hg hat; rw [← Ny156.out] at ho; have n0_ := Aside0.mk (Kd.R_after (ok := (fun _ => True)) (by (with_reducible repeat (first | apply Kd.R_alloc | apply Kd.R_drewN | apply Kd.R_drew)); exact HO_8.out) hg hat); have n1_ := Aside0.mk (hb); have n2_ := Aside0.mk (ho); clear HO_8; clear HB; clear HO155; have HO_8 := n0_; have HB := n1_; have HO158 := n2_; clear n0_ n1_ n2_; clear ho hb hg hat; obtain ⟨Ao87, co87, eo87⟩ := Kd.R_slice HO158.out; subst eo87; have p171 : 0 ≤ ((ji53) : Int) := of_decide_eq_true (by first | (with_reducible assumption) | assumption); have q171 : (ji53) < (y156.length : Int) := of_decide_eq_true (by first | (with_reducible assumption) | assumption); obtain ⟨ad171, e171, hx171_0, hx171_1, hx171_2, hx171_3, hx171_4⟩ := at_T28 (Kd.R_reads' HO158.out).2.2 (ji53) p171 q171; cases e171; replace p171 := eq_true p171; replace q171 := eq_true q171))
                            go_ret
                            exact ⟨by first | rfl | (simp [errW_none, errW_some] <;> rfl) | (simp only [← hji53]; first | rfl | (simp [errW_none, errW_some] <;> rfl)) | (simp [*, errW_none, errW_some] <;> rfl), by repeat (first | (with_reducible first | exact HB.out | apply below_alloc | apply pw_below_drewN | apply below_drew1) | exact HB.out)⟩
                      · rw [if_neg c55] at H
                        exact absurd H (by simp)
                    · rw [if_neg c54] at H
                      exact absurd H (by simp)
                  · rw [if_neg c52] at H
                    have c52b0 : ((Go.bits .and .i64 a2 3) == 1) = false := beq_eq_false_iff_ne.mpr c52
                    have c52b1 : ((Go.bits .and .i64 a2 3) != 1) = true := bne_iff_ne.mpr c52
                    by_cases c88 : (Go.bits .and .i64 a2 3) = 2
                    · rw [if_pos c88] at H
                      have c88b0 : ((Go.bits .and .i64 a2 3) == 2) = true := beq_iff_eq.mpr c88
                      have c88b1 : ((Go.bits .and .i64 a2 3) != 2) = false := bne_eq_false_iff_eq.mpr c88
                      clear c88
                      obtain ⟨ji89, hji89⟩ : ∃ j_ : Int, (Int.tmod (wrap64 ((Int.tmod a1 (x8_5.length : Int)) + (x8_5.length : Int))) (x8_5.length : Int)) = j_ := ⟨_, rfl⟩
                      replace H : (if 0 ≤ (ji89) then (if (ji89) < (y156.length : Int) then (if ((rd_T28 y156 (ji89)).f2) < ((rd_T28 y156 (ji89)).f3) then (if t145 = true then ((qpa_Test.f kj12 (y156.set ((ji89) : Int).toNat (⟨(rd_T28 y156 (ji89)).f0, (rd_T28 y156 (ji89)).f1, wrap64 (((rd_T28 y156 (ji89)).f2) + 1), (rd_T28 y156 (ji89)).f3, (rd_T28 y156 (ji89)).f4⟩ : S28))).bind fun t180 => (some (t180 == 0))) else (some false)) else (if t145 = true then ((qpa_Test.f kj12 y156).bind fun t181 => (some (t181 == 0))) else (some false))) else (none)) else (none)) = some r := by first | (rw [hji89] at H; exact H) | (simp only [hji89] at H ⊢; exact H)
                      by_cases c90 : 0 ≤ (ji89)
                      · rw [if_pos c90] at H
                        have c90b0 : decide (0 ≤ (ji89)) = true := decide_eq_true c90
                        clear c90
                        by_cases c91 : (ji89) < (y156.length : Int)
                        · rw [if_pos c91] at H
                          have c91b0 : decide ((ji89) < (y156.length : Int)) = true := decide_eq_true c91
                          clear c91
                          by_cases c92 : ((rd_T28 y156 (ji89)).f2) < ((rd_T28 y156 (ji89)).f3)
                          · rw [if_pos c92] at H
                            have c92b0 : decide (((rd_T28 y156 (ji89)).f2) < ((rd_T28 y156 (ji89)).f3)) = true := decide_eq_true c92
                            clear c92
                            obtain ⟨y179, hy179⟩ : ∃ y_ : List (S28), y_ = (y156.set ((ji89) : Int).toNat (⟨(rd_T28 y156 (ji89)).f0, (rd_T28 y156 (ji89)).f1, wrap64 (((rd_T28 y156 (ji89)).f2) + 1), (rd_T28 y156 (ji89)).f3, (rd_T28 y156 (ji89)).f4⟩ : S28)) := ⟨_, rfl⟩
                            replace H : (if t145 = true then ((qpa_Test.f kj12 y179).bind fun t180 => (some (t180 == 0))) else (some false)) = some r := by first | (rw [hy179]; with_reducible exact H) | (have H2_ := (Option.bind_some _ _).symm.trans H; rw [hy179]; with_reducible exact H2_) | (have H2_ := (Option.bind_some _ _).symm.trans H; with_reducible exact H2_) | with_reducible exact H | (rw [hy179]; exact H) | exact H
                            have Ny179 := Aside0.mk hy179
                            clear hy179
                            by_cases c94 : t145 = true
                            · subst c94
                              have H1 : ((qpa_Test.f kj12 y179).bind fun t180 => (some (t180 == 0))) = some r := by rw [if_pos rfl] at H; exact H
                              clear H
                              have H := H1
                              clear H1
                              replace H := Option.bind_eq_some_iff.mp H
                              obtain ⟨t180, A950, H⟩ := H
                              replace H : (some (t180 == 0)) = some r := H
                              have A95 := Aside0.mk A950
                              clear A950
                              obtain rfl := Option.some.inj H
                              obtain ⟨Ao96, co96, eo96⟩ := Kd.R_slice HO_8.out
                              subst eo96
                              try go_wp2_with (first | ((with_reducible refine gate_dst (N := 38) rfl ?_); refine Kd.R_lit k28 _ 28 ?hg (N := 38) ?hd (xs := ([] : List (S28))) (inner := []) (ok := fun _ => True) (okp := fun _ => True) ?hr ?hp (fun _ hk => hk) trivial (Below.refl _ _) (Nat.le_refl _) (by simp) ?_; (case hd => rfl); (case hg => rfl); (case hr => first | (go_simp; done) | (go_simp; rfl)); (case hp => exact (Reps.none _ _)); intro v154 w97 ho98 hb hg_ hnew_; clear hg_ hnew_; (first | rw [← Ny153.out] at ho98 | (simp only [Int.reduceToNat] at ho98; rw [← Ny153.out] at ho98)); have n0_ := Aside0.mk (Kd.R_elder' (by (with_reducible repeat (first | apply Kd.R_alloc | apply Kd.R_drewN | apply Kd.R_drew)); exact HO_8.out) (Kd.R_base ho98) hb); have n1_ := Aside0.mk (Kd.R_lower (Kd.R_new' ho98 (Kd.R_lt (by (with_reducible repeat (first | apply Kd.R_alloc | apply Kd.R_drewN | apply Kd.R_drew)); exact HO_8.out))) (below_size (by repeat (first | (with_reducible first | exact HB.out | apply below_alloc | apply pw_below_drewN | apply below_drew1) | exact HB.out)))); have n2_ := Aside0.mk (below_step (by repeat (first | (with_reducible first | exact HB.out | apply below_alloc | apply pw_below_drewN | apply below_drew1) | exact HB.out)) hb); clear HO_8; clear HB; have HO_8 := n0_; have HO155 := n1_; have HB := n2_; clear n0_ n1_ n2_; clear hb ho98) | ((with_reducible refine gate_builtin (b := .append) (xs := #[.tmp 38, .tmp 39]) rfl ?_); at_builtin; refine Kd.R_append_rows k28 (w0 := w) w.heap.size rfl (.tmp 38) (.tmp 39) 24 28 (.agg #[(.int .i64 0), (.int .i64 0), (.int .i64 0), (.int .i64 0), (.int .i64 0)]) 40 rfl Try.underlying24 info28 rfl (by decide) (by omega) v154 y153 x8_5 _ _ _ (fun k_ => some k_ ≠ (.slice Ao96 x8_5.length co96 : Value).ownBlock) (fun _ => False) rfl rfl ?aO ?aR (fun _ _ h => h) (fun _ h => h.elim) ?aF ?aB ?aS ?aL ?_; (case aR => repeat (first | exact (Kd.R_reads' HO_8.out).2.2 | (with_reducible refine Kd.C_alloc ?_ _) | (with_reducible refine Kd.C_drewN ?_ _) | (with_reducible refine Kd.C_drew ?_))); (case aB => exact (by repeat (first | (with_reducible first | exact HB.out | apply below_alloc | apply pw_below_drewN | apply below_drew1) | exact HB.out))); (case aF => exact (fun k_ hk => Kd.fresh' (Kd.R_lt (by (with_reducible repeat (first | apply Kd.R_alloc | apply Kd.R_drewN | apply Kd.R_drew)); exact HO_8.out)) k_ hk)); (case aO => exact (by (with_reducible repeat (first | apply Kd.R_alloc | apply Kd.R_drewN | apply Kd.R_drew)); exact Kd.R_mono HO155.out (fun _ hk => hk.2))); (case aS => exact (below_size (by repeat (first | (with_reducible first | exact HB.out | apply below_alloc | apply pw_below_drewN | apply below_drew1) | exact HB.out)))); (case aL => have := LMc21.out; omega); intro v157 w99 ho hb hg hat; rw [← Ny156.out] at ho; have n0_ := Aside0.mk (Kd.R_after (ok := (fun _ => True)) (by (with_reducible repeat (first | apply Kd.R_alloc | apply Kd.R_drewN | apply Kd.R_drew)); exact HO_8.out) hg hat); have n1_ := Aside0.mk (hb); have n2_ := Aside0.mk (ho); clear HO_8; clear HB; clear HO155; have HO_8 := n0_; have HB := n1_; have HO158 := n2_; clear n0_ n1_ n2_; clear ho hb hg hat))
                              have n0_ := Aside0.mk (Kd.R_drew HO_8.out)
                              have n1_ := Aside0.mk (Kd.R_drew HO158.out)
                              have n2_ := Aside0.mk (below_drew1 HB.out)
                              clear HO_8
                              clear HO158
                              clear HB
                              have HO_8 := n0_
                              have HO158 := n1_
                              have HB := n2_
                              clear n0_ n1_ n2_
                              obtain ⟨Ao101, co101, eo101⟩ := Kd.R_slice HO158.out
                              (first | subst eo101 | (injection eo101 with f1_ f2_ f3_; have f4_ := f1_.symm; have f5_ := f3_.symm; clear f1_ f2_ f3_; subst f4_; subst f5_))
                              have p176 : 0 ≤ ((ji89) : Int) := of_decide_eq_true (by first | (with_reducible assumption) | assumption)
                              have q176 : (ji89) < (y156.length : Int) := of_decide_eq_true (by first | (with_reducible assumption) | assumption)
                              obtain ⟨ad176, e176, hx176_0, hx176_1, hx176_2, hx176_3, hx176_4⟩ := at_T28 (Kd.R_reads' HO158.out).2.2 (ji89) p176 q176
                              cases e176
                              replace p176 := eq_true p176
                              replace q176 := eq_true q176
                              have p177 : 0 ≤ ((ji89) : Int) := of_decide_eq_true (by first | (with_reducible assumption) | assumption)
                              have q177 : (ji89) < (y156.length : Int) := of_decide_eq_true (by first | (with_reducible assumption) | assumption)
                              obtain ⟨ad177, e177, hx177_0, hx177_1, hx177_2, hx177_3, hx177_4⟩ := at_T28 (Kd.R_reads' HO158.out).2.2 (ji89) p177 q177
                              obtain rfl : ad176 = ad177 := (by injection e177)
                              replace p177 := eq_true p177
                              replace q177 := eq_true q177
                              refine start_ (n := 11) (S := fun w' => w'.cell? (ad176.add (((ji89)).toNat * 5)) = some (.int .i64 ((rd_T28 y156 (ji89)).f0)) ∧ w'.cell? ⟨(ad176.add (((ji89)).toNat * 5)).block, (ad176.add (((ji89)).toNat * 5)).off + 1, none⟩ = some (.int .i64 ((rd_T28 y156 (ji89)).f1)) ∧ w'.cell? ⟨(ad176.add (((ji89)).toNat * 5)).block, (ad176.add (((ji89)).toNat * 5)).off + 2, none⟩ = some (.int .i64 ((rd_T28 y156 (ji89)).f2)) ∧ w'.cell? ⟨(ad176.add (((ji89)).toNat * 5)).block, (ad176.add (((ji89)).toNat * 5)).off + 3, none⟩ = some (.int .i64 ((rd_T28 y156 (ji89)).f3)) ∧ w'.cell? ⟨(ad176.add (((ji89)).toNat * 5)).block, (ad176.add (((ji89)).toNat * 5)).off + 4, none⟩ = some (.int .i64 ((rd_T28 y156 (ji89)).f4)) ∧ w'.cell? (ad176.add (((ji89)).toNat * 5)) = some (.int .i64 ((rd_T28 y156 (ji89)).f0)) ∧ w'.cell? ⟨(ad176.add (((ji89)).toNat * 5)).block, (ad176.add (((ji89)).toNat * 5)).off + 1, none⟩ = some (.int .i64 ((rd_T28 y156 (ji89)).f1)) ∧ w'.cell? ⟨(ad176.add (((ji89)).toNat * 5)).block, (ad176.add (((ji89)).toNat * 5)).off + 2, none⟩ = some (.int .i64 ((rd_T28 y156 (ji89)).f2)) ∧ w'.cell? ⟨(ad176.add (((ji89)).toNat * 5)).block, (ad176.add (((ji89)).toNat * 5)).off + 3, none⟩ = some (.int .i64 ((rd_T28 y156 (ji89)).f3)) ∧ w'.cell? ⟨(ad176.add (((ji89)).toNat * 5)).block, (ad176.add (((ji89)).toNat * 5)).off + 4, none⟩ = some (.int .i64 ((rd_T28 y156 (ji89)).f4))) (ds := []) #[false, false, false, false, false, false, false, false, false, false, false] (by kernel_rfl) rfl rfl ⟨hx176_0, hx176_1, hx176_2, hx176_3, hx176_4, hx177_0, hx177_1, hx177_2, hx177_3, hx177_4⟩ (fun hHeld => ?_); refine with_tabW horariumlaw12_QpaLess.tab16 horariumlaw12_QpaLess.bits16 (fun HT_ HW_ => ?_)
                              generalize w99.drew = w100 at HO_8 HO158 HB hx176_0 hx176_1 hx176_2 hx176_3 hx176_4 hx177_0 hx177_1 hx177_2 hx177_3 hx177_4 hHeld ⊢
                              refine pure_ (i := 0) (N := some 71) (v := ?_) (a' := ?_) #[true, false, false, false, false, false, false, false, false, false, false] rfl rfl (any_of HT_.out (by kernel_rfl)) (fun _ _ _ h => h) (Or.inl ⟨by rfl, ?_⟩) ?_ ?_
                              rotate_left
                              · intro w'
                                go_simp
                                with_reducible rfl
                              rotate_left
                              · simp only [Act.put, List.setIfInBounds_toArray, List.set_cons_zero, List.set_cons_succ, i64_w, i32_w]
                                rfl
                              refine pure_ (i := 1) (N := some 72) (v := ?_) (a' := ?_) #[true, true, false, false, false, false, false, false, false, false, false] rfl rfl (any_of HT_.out (by kernel_rfl)) (fun _ _ _ h => h) (Or.inl ⟨by rfl, ?_⟩) ?_ ?_
                              rotate_left
                              · intro w'
                                go_simp
                                with_reducible rfl
                              rotate_left
                              · simp only [Act.put, List.setIfInBounds_toArray, List.set_cons_zero, List.set_cons_succ, i64_w, i32_w]
                                rfl
                              refine pure_ (i := 2) (N := some 73) (v := ?_) (a' := ?_) #[true, true, true, false, false, false, false, false, false, false, false] rfl rfl (any_of HT_.out (by kernel_rfl)) (fun _ _ _ h => h) (Or.inl ⟨by rfl, ?_⟩) ?_ ?_
                              rotate_left
                              · intro w'
                                go_simp
                                with_reducible rfl
                              rotate_left
                              · simp only [Act.put, List.setIfInBounds_toArray, List.set_cons_zero, List.set_cons_succ, i64_w, i32_w]
                                rfl
                              refine pure_ (i := 3) (N := some 74) (v := ?_) (a' := ?_) #[true, true, true, true, false, false, false, false, false, false, false] rfl rfl (any_of HT_.out (by kernel_rfl)) (fun _ _ _ h => h) (Or.inl ⟨by rfl, ?_⟩) ?_ ?_
                              rotate_left
                              · intro w'
                                go_simp
                                with_reducible rfl
                              rotate_left
                              · simp only [Act.put, List.setIfInBounds_toArray, List.set_cons_zero, List.set_cons_succ, i64_w, i32_w]
                                rfl
                              refine pure_ (i := 5) (N := some 76) (v := ?_) (a' := ?_) #[true, true, true, true, false, true, false, false, false, false, false] rfl rfl (any_of HT_.out (by kernel_rfl)) (fun _ _ _ h => h) (Or.inl ⟨by rfl, ?_⟩) ?_ ?_
                              rotate_left
                              · intro w'
                                go_simp
                                with_reducible rfl
                              rotate_left
                              · simp only [Act.put, List.setIfInBounds_toArray, List.set_cons_zero, List.set_cons_succ, i64_w, i32_w]
                                rfl
                              refine pure_ (i := 6) (N := some 77) (v := ?_) (a' := ?_) #[true, true, true, true, false, true, true, false, false, false, false] rfl rfl (any_of HT_.out (by kernel_rfl)) (fun _ _ _ h => h) (Or.inl ⟨by rfl, ?_⟩) ?_ ?_
                              rotate_left
                              · intro w'
                                go_simp
                                with_reducible rfl
                              rotate_left
                              · simp only [Act.put, List.setIfInBounds_toArray, List.set_cons_zero, List.set_cons_succ, i64_w, i32_w]
                                rfl
                              refine pure_ (i := 7) (N := some 78) (v := ?_) (a' := ?_) #[true, true, true, true, false, true, true, true, false, false, false] rfl rfl (any_of HT_.out (by kernel_rfl)) (fun _ _ _ h => h) (Or.inl ⟨by rfl, ?_⟩) ?_ ?_
                              rotate_left
                              · intro w'
                                go_simp
                                with_reducible rfl
                              rotate_left
                              · simp only [Act.put, List.setIfInBounds_toArray, List.set_cons_zero, List.set_cons_succ, i64_w, i32_w]
                                rfl
                              refine pure_ (i := 8) (N := some 79) (v := ?_) (a' := ?_) #[true, true, true, true, false, true, true, true, true, false, false] rfl rfl (any_of HT_.out (by kernel_rfl)) (fun _ _ _ h => h) (Or.inl ⟨by rfl, ?_⟩) ?_ ?_
                              rotate_left
                              · intro w'
                                go_simp
                                with_reducible rfl
                              rotate_left
                              · simp only [Act.put, List.setIfInBounds_toArray, List.set_cons_zero, List.set_cons_succ, i64_w, i32_w]
                                rfl
                              refine take_ (i := 4) (N := some 75) (v := ?_) (a' := ?_) #[true, true, true, true, true, true, true, true, true, false, false] rfl rfl (take_ofW HT_.out HW_.out (by kernel_rfl)) (fun _ _ _ h => h) (Or.inl ⟨by rfl, ?_⟩) hHeld ?_ ?_
                              rotate_left
                              · rintro w' ⟨s0, s1, s2, s3, s4, s5, s6, s7, s8, s9⟩
                                go_simp
                                with_reducible rfl
                              rotate_left
                              · simp only [Act.put, List.setIfInBounds_toArray, List.set_cons_zero, List.set_cons_succ, i64_w, i32_w]
                                rfl
                              refine take_ (i := 9) (N := some 80) (v := ?_) (a' := ?_) #[true, true, true, true, true, true, true, true, true, true, false] rfl rfl (take_ofW HT_.out HW_.out (by kernel_rfl)) (fun _ _ _ h => h) (Or.inl ⟨by rfl, ?_⟩) hHeld ?_ ?_
                              rotate_left
                              · rintro w' ⟨s0, s1, s2, s3, s4, s5, s6, s7, s8, s9⟩
                                go_simp
                                with_reducible rfl
                              rotate_left
                              · simp only [Act.put, List.setIfInBounds_toArray, List.set_cons_zero, List.set_cons_succ, i64_w, i32_w]
                                rfl
                              refine pure_ (i := 10) (N := some 81) (v := ?_) (a' := ?_) #[true, true, true, true, true, true, true, true, true, true, true] rfl rfl (any_of HT_.out (by kernel_rfl)) (fun _ _ _ h => h) (Or.inl ⟨by rfl, ?_⟩) ?_ ?_
                              rotate_left
                              · intro w'
                                go_simp
                                with_reducible rfl
                              rotate_left
                              · simp only [Act.put, List.setIfInBounds_toArray, List.set_cons_zero, List.set_cons_succ, i64_w, i32_w]
                                rfl
                              refine done_ (done_of HT_.out (by kernel_rfl)) ?_
                              have p178 : 0 ≤ ((ji89) : Int) := of_decide_eq_true (by first | (with_reducible assumption) | assumption)
                              have q178 : (ji89) < (y156.length : Int) := of_decide_eq_true (by first | (with_reducible assumption) | assumption)
                              obtain ⟨ad178, e178, hx178_0, hx178_1, hx178_2, hx178_3, hx178_4⟩ := at_T28 (Kd.R_reads' HO158.out).2.2 (ji89) p178 q178
                              obtain rfl : ad176 = ad178 := (by injection e178)
                              replace p178 := eq_true p178
                              replace q178 := eq_true q178
                              have p93 : 0 ≤ ((ji89) : Int) := of_decide_eq_true (by first | (with_reducible assumption) | assumption)
                              have q93 : ((ji89) : Int) < ((y156.length : Int) : Int) := of_decide_eq_true (by first | (with_reducible assumption) | assumption)
                              obtain ⟨go93, co93, eo93, gb93, gl93, cl93, HG93⟩ := Kd.R_form HO158.out (by omega)
                              (first | cases eo93 | (injection eo93 with ea_ en_ ec_; (first | subst ea_ | (injection ea_ with ea_; subst ea_)); subst ec_; clear en_))
                              have GB93 := Aside0.mk gb93
                              have GG93 := Aside0.mk HG93
                              clear gb93 gl93 HG93
                              (first | simp only [add_plain] at hx176_0 | skip)
                              (first | simp only [add_plain] at hx176_1 | skip)
                              (first | simp only [add_plain] at hx176_2 | skip)
                              (first | simp only [add_plain] at hx176_3 | skip)
                              (first | simp only [add_plain] at hx176_4 | skip)
                              (first | simp only [add_plain] at hx177_0 | skip)
                              (first | simp only [add_plain] at hx177_1 | skip)
                              (first | simp only [add_plain] at hx177_2 | skip)
                              (first | simp only [add_plain] at hx177_3 | skip)
                              (first | simp only [add_plain] at hx177_4 | skip)
                              (first | simp only [add_plain] at hx178_0 | skip)
                              (first | simp only [add_plain] at hx178_1 | skip)
                              (first | simp only [add_plain] at hx178_2 | skip)
                              (first | simp only [add_plain] at hx178_3 | skip)
                              (first | simp only [add_plain] at hx178_4 | skip)
                              obtain ⟨ce93, hcl93, hM93, hcc93, hfr93⟩ := Kd.R_elem HO158.out z28 ((ji89) : Int) p93 q93
                              obtain rfl := k28_openM hM93
                              have hx93_0 : w100.cell? ⟨go93, ((ji89) : Int).toNat * 5, none⟩ = some (.int .i64 ((rd_T28 y156 (ji89)).f0)) := hcc93 0 _ rfl
                              have hx93_1 : w100.cell? ⟨go93, ((ji89) : Int).toNat * 5 + 1, none⟩ = some (.int .i64 ((rd_T28 y156 (ji89)).f1)) := hcc93 1 _ rfl
                              have hx93_2 : w100.cell? ⟨go93, ((ji89) : Int).toNat * 5 + 2, none⟩ = some (.int .i64 ((rd_T28 y156 (ji89)).f2)) := hcc93 2 _ rfl
                              have hx93_3 : w100.cell? ⟨go93, ((ji89) : Int).toNat * 5 + 3, none⟩ = some (.int .i64 ((rd_T28 y156 (ji89)).f3)) := hcc93 3 _ rfl
                              have hx93_4 : w100.cell? ⟨go93, ((ji89) : Int).toNat * 5 + 4, none⟩ = some (.int .i64 ((rd_T28 y156 (ji89)).f4)) := hcc93 4 _ rfl
                              have hf93_0 : w100.frozen? ⟨go93, ((ji89) : Int).toNat * 5, none⟩ = false := hfr93 0
                              have hf93_1 : w100.frozen? ⟨go93, ((ji89) : Int).toNat * 5 + 1, none⟩ = false := hfr93 1
                              have hf93_2 : w100.frozen? ⟨go93, ((ji89) : Int).toNat * 5 + 2, none⟩ = false := hfr93 2
                              have hf93_3 : w100.frozen? ⟨go93, ((ji89) : Int).toNat * 5 + 3, none⟩ = false := hfr93 3
                              have hf93_4 : w100.frozen? ⟨go93, ((ji89) : Int).toNat * 5 + 4, none⟩ = false := hfr93 4
                              clear hcl93 hcc93 hfr93 hM93
                              replace p93 := eq_true p93
                              replace q93 := eq_true q93
                              have HX102 := Aside0.mk (show Kd.R k28 28 w100 w.heap.size (fun k_ => some k_ ≠ (.slice Ao96 x8_5.length co96 : Value).ownBlock) (.slice (some ⟨go93, 0, none⟩) y156.length co101) y156 from (by (with_reducible repeat (first | apply Kd.R_alloc | apply Kd.R_drewN | apply Kd.R_drew)); exact HO158.out))
                              obtain ⟨ce102, hcl102, hM102, hcc102, hfr102⟩ := Kd.R_elem HX102.out z28 ((ji89) : Int) (of_decide_eq_true (by first | (with_reducible assumption) | assumption)) (by have h_ : ((ji89) : Int) < ((y156.length : Int) : Int) := of_decide_eq_true (by first | (with_reducible assumption) | assumption); first | exact h_ | (have e_ := (Kd.R_reads' HO158.out).1; omega) | simpa using h_)
                              obtain rfl := k28_openM hM102
                              have HP102 := Kd.R_seg HX102.out ((ji89) : Int) (of_decide_eq_true (by first | (with_reducible assumption) | assumption)) (by have h_ : ((ji89) : Int) < ((y156.length : Int) : Int) := of_decide_eq_true (by first | (with_reducible assumption) | assumption); first | exact h_ | (have e_ := (Kd.R_reads' HO158.out).1; omega) | simpa using h_) (seg := [.int .i64 (wrap64 (((rd_T28 y156 (ji89)).f2) + 1))]) (j := 2) hcl102 hcc102 (show 3 ≤ 5 from by decide) (x' := (⟨(rd_T28 y156 (ji89)).f0, (rd_T28 y156 (ji89)).f1, wrap64 (((rd_T28 y156 (ji89)).f2) + 1), (rd_T28 y156 (ji89)).f3, (rd_T28 y156 (ji89)).f4⟩ : S28)) (k28_mkM _ _ _ (⟨(rd_T28 y156 (ji89)).f0, (rd_T28 y156 (ji89)).f1, wrap64 (((rd_T28 y156 (ji89)).f2) + 1), (rd_T28 y156 (ji89)).f3, (rd_T28 y156 (ji89)).f4⟩ : S28) ) (fun _ hk => hk)
                              have hx102_2 := hcc102 2 _ rfl
                              (try simp only [show (k28).sz = 5 from rfl, Nat.mul_one, Nat.add_zero] at hx102_2)
                              have hf102_2 := hfr102 2
                              (try simp only [show (k28).sz = 5 from rfl, Nat.mul_one, Nat.add_zero] at hf102_2)
                              clear hcl102 hcc102 hfr102 hM102
                              try go_wp2_with (first | ((with_reducible refine gate_store (t := 2) (p := 89) rfl ?_); refine store_event (t := 2) (p := 89) (v := ?vo_w103) (w1 := (w100.setCell ⟨go93, ((ji89) : Int).toNat * 5 + 2, none⟩ (.int .i64 (wrap64 (((rd_T28 y156 (ji89)).f2) + 1))))) ?hg ?ho ?hn ?hr ?_; (case ho => rfl); (case hg => rfl); (case hn => rfl); (case hr => first | (go_simp; done) | (go_simp; rfl)); intro w103 hw; have hg : w100.grownBy w103 (some go93) := (by rw [hw]; exact HP102.2); have hp_ : Kd.R k28 28 w103 w.heap.size (fun k_ => some k_ ≠ (.slice Ao96 x8_5.length co96 : Value).ownBlock) (.slice (some ⟨go93, 0, none⟩) y156.length co101) y179 := (by rw [hw, Ny179.out]; exact HP102.1); clear HP102; have n0_ := Aside0.mk (Kd.R_after (v := (.slice (some ⟨go93, 0, none⟩) y156.length co101)) (v1 := (.slice (some ⟨go93, 0, none⟩) y156.length co101)) (ok := (fun _ => True)) (by (with_reducible repeat (first | apply Kd.R_alloc | apply Kd.R_drewN | apply Kd.R_drew)); exact HO_8.out) hg (.inl rfl)); have n1_ := Aside0.mk (hp_); have n2_ := Aside0.mk ((by rw [hw]; exact below_set (HB.out) GB93.out : Below w.heap.size w w103)); clear HO_8; clear HO158; clear HB; have HO_8 := n0_; have HO158 := n1_; have HB := n2_; clear n0_ n1_ n2_; clear hg hw hp_) | (go_at_call 29; refine calls_of_args (args' := #[.slice (some ⟨go93, 0, none⟩) y179.length co101]) (by first | (rw [show y179.length = y156.length from (Kd.R_reads' HO158.out).1.symm] <;> rfl) | rfl) ?_; (with_reducible refine (qpa_Test.calls kj12 _ _ y179 t180 _ ?side1 ?side2 A95.out).mono ?_); (case side1 => repeat (first | exact (Kd.R_reads' HO158.out).2.2 | (with_reducible refine Kd.C_alloc ?_ _) | (with_reducible refine Kd.C_drewN ?_ _) | (with_reducible refine Kd.C_drew ?_))); (case side2 => rw [show y179.length = y156.length from (Kd.R_reads' HO158.out).1.symm]; exact (Kd.R_reads' HO158.out).2.1); rintro e w104 ⟨rfl, hb⟩; have n0_ := Aside0.mk (Kd.R_below (by (with_reducible repeat (first | apply Kd.R_alloc | apply Kd.R_drewN | apply Kd.R_drew)); exact HO_8.out) hb); have n1_ := Aside0.mk (Kd.R_below (by (with_reducible repeat (first | apply Kd.R_alloc | apply Kd.R_drewN | apply Kd.R_drew)); exact HO158.out) hb); have n2_ := Aside0.mk (below_step (by repeat (first | (with_reducible first | exact HB.out | apply below_alloc | apply pw_below_drewN | apply below_drew1) | exact HB.out)) hb); clear HO_8; clear HO158; clear HB; have HO_8 := n0_; have HO158 := n1_; have HB := n2_; clear n0_ n1_ n2_; (try clear hb); (try clear hb2); (try clear hk); (try clear hi)))
                              go_ret
                              exact ⟨by first | rfl | (simp [errW_none, errW_some] <;> rfl) | (simp only [← hji89]; first | rfl | (simp [errW_none, errW_some] <;> rfl)) | (simp [*, errW_none, errW_some] <;> rfl), by repeat (first | (with_reducible first | exact HB.out | apply below_alloc | apply pw_below_drewN | apply below_drew1) | exact HB.out)⟩
                            · replace c94 := Bool.eq_false_iff.mpr c94
                              subst c94
                              have H1 : (some false) = some r := by rw [if_neg (show ¬ (false = true) by decide)] at H; exact H
                              clear H
                              have H := H1
                              clear H1
                              obtain rfl := Option.some.inj H
                              obtain ⟨Ao105, co105, eo105⟩ := Kd.R_slice HO_8.out
                              subst eo105
                              try go_wp2_with (first | ((with_reducible refine gate_dst (N := 38) rfl ?_); refine Kd.R_lit k28 _ 28 ?hg (N := 38) ?hd (xs := ([] : List (S28))) (inner := []) (ok := fun _ => True) (okp := fun _ => True) ?hr ?hp (fun _ hk => hk) trivial (Below.refl _ _) (Nat.le_refl _) (by simp) ?_; (case hd => rfl); (case hg => rfl); (case hr => first | (go_simp; done) | (go_simp; rfl)); (case hp => exact (Reps.none _ _)); intro v154 w106 ho107 hb hg_ hnew_; clear hg_ hnew_; (first | rw [← Ny153.out] at ho107 | (simp only [Int.reduceToNat] at ho107; rw [← Ny153.out] at ho107)); have n0_ := Aside0.mk (Kd.R_elder' (by (with_reducible repeat (first | apply Kd.R_alloc | apply Kd.R_drewN | apply Kd.R_drew)); exact HO_8.out) (Kd.R_base ho107) hb); have n1_ := Aside0.mk (Kd.R_lower (Kd.R_new' ho107 (Kd.R_lt (by (with_reducible repeat (first | apply Kd.R_alloc | apply Kd.R_drewN | apply Kd.R_drew)); exact HO_8.out))) (below_size (by repeat (first | (with_reducible first | exact HB.out | apply below_alloc | apply pw_below_drewN | apply below_drew1) | exact HB.out)))); have n2_ := Aside0.mk (below_step (by repeat (first | (with_reducible first | exact HB.out | apply below_alloc | apply pw_below_drewN | apply below_drew1) | exact HB.out)) hb); clear HO_8; clear HB; have HO_8 := n0_; have HO155 := n1_; have HB := n2_; clear n0_ n1_ n2_; clear hb ho107) | ((with_reducible refine gate_builtin (b := .append) (xs := #[.tmp 38, .tmp 39]) rfl ?_); at_builtin; refine Kd.R_append_rows k28 (w0 := w) w.heap.size rfl (.tmp 38) (.tmp 39) 24 28 (.agg #[(.int .i64 0), (.int .i64 0), (.int .i64 0), (.int .i64 0), (.int .i64 0)]) 40 rfl Try.underlying24 info28 rfl (by decide) (by omega) v154 y153 x8_5 _ _ _ (fun k_ => some k_ ≠ (.slice Ao105 x8_5.length co105 : Value).ownBlock) (fun _ => False) rfl rfl ?aO ?aR (fun _ _ h => h) (fun _ h => h.elim) ?aF ?aB ?aS ?aL ?_; (case aR => repeat (first | exact (Kd.R_reads' HO_8.out).2.2 | (with_reducible refine Kd.C_alloc ?_ _) | (with_reducible refine Kd.C_drewN ?_ _) | (with_reducible refine Kd.C_drew ?_))); (case aB => exact (by repeat (first | (with_reducible first | exact HB.out | apply below_alloc | apply pw_below_drewN | apply below_drew1) | exact HB.out))); (case aF => exact (fun k_ hk => Kd.fresh' (Kd.R_lt (by (with_reducible repeat (first | apply Kd.R_alloc | apply Kd.R_drewN | apply Kd.R_drew)); exact HO_8.out)) k_ hk)); (case aO => exact (by (with_reducible repeat (first | apply Kd.R_alloc | apply Kd.R_drewN | apply Kd.R_drew)); exact Kd.R_mono HO155.out (fun _ hk => hk.2))); (case aS => exact (below_size (by repeat (first | (with_reducible first | exact HB.out | apply below_alloc | apply pw_below_drewN | apply below_drew1) | exact HB.out)))); (case aL => have := LMc21.out; omega); intro v157 w108 ho hb hg hat; rw [← Ny156.out] at ho; have n0_ := Aside0.mk (Kd.R_after (ok := (fun _ => True)) (by (with_reducible repeat (first | apply Kd.R_alloc | apply Kd.R_drewN | apply Kd.R_drew)); exact HO_8.out) hg hat); have n1_ := Aside0.mk (hb); have n2_ := Aside0.mk (ho); clear HO_8; clear HB; clear HO155; have HO_8 := n0_; have HB := n1_; have HO158 := n2_; clear n0_ n1_ n2_; clear ho hb hg hat))
                              have n0_ := Aside0.mk (Kd.R_drew HO_8.out)
                              have n1_ := Aside0.mk (Kd.R_drew HO158.out)
                              have n2_ := Aside0.mk (below_drew1 HB.out)
                              clear HO_8
                              clear HO158
                              clear HB
                              have HO_8 := n0_
                              have HO158 := n1_
                              have HB := n2_
                              clear n0_ n1_ n2_
                              obtain ⟨Ao110, co110, eo110⟩ := Kd.R_slice HO158.out
                              (first | subst eo110 | (injection eo110 with f1_ f2_ f3_; have f4_ := f1_.symm; have f5_ := f3_.symm; clear f1_ f2_ f3_; subst f4_; subst f5_))
                              have p176 : 0 ≤ ((ji89) : Int) := of_decide_eq_true (by first | (with_reducible assumption) | assumption)
                              have q176 : (ji89) < (y156.length : Int) := of_decide_eq_true (by first | (with_reducible assumption) | assumption)
                              obtain ⟨ad176, e176, hx176_0, hx176_1, hx176_2, hx176_3, hx176_4⟩ := at_T28 (Kd.R_reads' HO158.out).2.2 (ji89) p176 q176
                              cases e176
                              replace p176 := eq_true p176
                              replace q176 := eq_true q176
                              have p177 : 0 ≤ ((ji89) : Int) := of_decide_eq_true (by first | (with_reducible assumption) | assumption)
                              have q177 : (ji89) < (y156.length : Int) := of_decide_eq_true (by first | (with_reducible assumption) | assumption)
                              obtain ⟨ad177, e177, hx177_0, hx177_1, hx177_2, hx177_3, hx177_4⟩ := at_T28 (Kd.R_reads' HO158.out).2.2 (ji89) p177 q177
                              obtain rfl : ad176 = ad177 := (by injection e177)
                              replace p177 := eq_true p177
                              replace q177 := eq_true q177
                              refine start_ (n := 11) (S := fun w' => w'.cell? (ad176.add (((ji89)).toNat * 5)) = some (.int .i64 ((rd_T28 y156 (ji89)).f0)) ∧ w'.cell? ⟨(ad176.add (((ji89)).toNat * 5)).block, (ad176.add (((ji89)).toNat * 5)).off + 1, none⟩ = some (.int .i64 ((rd_T28 y156 (ji89)).f1)) ∧ w'.cell? ⟨(ad176.add (((ji89)).toNat * 5)).block, (ad176.add (((ji89)).toNat * 5)).off + 2, none⟩ = some (.int .i64 ((rd_T28 y156 (ji89)).f2)) ∧ w'.cell? ⟨(ad176.add (((ji89)).toNat * 5)).block, (ad176.add (((ji89)).toNat * 5)).off + 3, none⟩ = some (.int .i64 ((rd_T28 y156 (ji89)).f3)) ∧ w'.cell? ⟨(ad176.add (((ji89)).toNat * 5)).block, (ad176.add (((ji89)).toNat * 5)).off + 4, none⟩ = some (.int .i64 ((rd_T28 y156 (ji89)).f4)) ∧ w'.cell? (ad176.add (((ji89)).toNat * 5)) = some (.int .i64 ((rd_T28 y156 (ji89)).f0)) ∧ w'.cell? ⟨(ad176.add (((ji89)).toNat * 5)).block, (ad176.add (((ji89)).toNat * 5)).off + 1, none⟩ = some (.int .i64 ((rd_T28 y156 (ji89)).f1)) ∧ w'.cell? ⟨(ad176.add (((ji89)).toNat * 5)).block, (ad176.add (((ji89)).toNat * 5)).off + 2, none⟩ = some (.int .i64 ((rd_T28 y156 (ji89)).f2)) ∧ w'.cell? ⟨(ad176.add (((ji89)).toNat * 5)).block, (ad176.add (((ji89)).toNat * 5)).off + 3, none⟩ = some (.int .i64 ((rd_T28 y156 (ji89)).f3)) ∧ w'.cell? ⟨(ad176.add (((ji89)).toNat * 5)).block, (ad176.add (((ji89)).toNat * 5)).off + 4, none⟩ = some (.int .i64 ((rd_T28 y156 (ji89)).f4))) (ds := []) #[false, false, false, false, false, false, false, false, false, false, false] (by kernel_rfl) rfl rfl ⟨hx176_0, hx176_1, hx176_2, hx176_3, hx176_4, hx177_0, hx177_1, hx177_2, hx177_3, hx177_4⟩ (fun hHeld => ?_); refine with_tabW horariumlaw12_QpaLess.tab16 horariumlaw12_QpaLess.bits16 (fun HT_ HW_ => ?_)
                              generalize w108.drew = w109 at HO_8 HO158 HB hx176_0 hx176_1 hx176_2 hx176_3 hx176_4 hx177_0 hx177_1 hx177_2 hx177_3 hx177_4 hHeld ⊢
                              refine pure_ (i := 0) (N := some 71) (v := ?_) (a' := ?_) #[true, false, false, false, false, false, false, false, false, false, false] rfl rfl (any_of HT_.out (by kernel_rfl)) (fun _ _ _ h => h) (Or.inl ⟨by rfl, ?_⟩) ?_ ?_
                              rotate_left
                              · intro w'
                                go_simp
                                with_reducible rfl
                              rotate_left
                              · simp only [Act.put, List.setIfInBounds_toArray, List.set_cons_zero, List.set_cons_succ, i64_w, i32_w]
                                rfl
                              refine pure_ (i := 1) (N := some 72) (v := ?_) (a' := ?_) #[true, true, false, false, false, false, false, false, false, false, false] rfl rfl (any_of HT_.out (by kernel_rfl)) (fun _ _ _ h => h) (Or.inl ⟨by rfl, ?_⟩) ?_ ?_
                              rotate_left
                              · intro w'
                                go_simp
                                with_reducible rfl
                              rotate_left
                              · simp only [Act.put, List.setIfInBounds_toArray, List.set_cons_zero, List.set_cons_succ, i64_w, i32_w]
                                rfl
                              refine pure_ (i := 2) (N := some 73) (v := ?_) (a' := ?_) #[true, true, true, false, false, false, false, false, false, false, false] rfl rfl (any_of HT_.out (by kernel_rfl)) (fun _ _ _ h => h) (Or.inl ⟨by rfl, ?_⟩) ?_ ?_
                              rotate_left
                              · intro w'
                                go_simp
                                with_reducible rfl
                              rotate_left
                              · simp only [Act.put, List.setIfInBounds_toArray, List.set_cons_zero, List.set_cons_succ, i64_w, i32_w]
                                rfl
                              refine pure_ (i := 3) (N := some 74) (v := ?_) (a' := ?_) #[true, true, true, true, false, false, false, false, false, false, false] rfl rfl (any_of HT_.out (by kernel_rfl)) (fun _ _ _ h => h) (Or.inl ⟨by rfl, ?_⟩) ?_ ?_
                              rotate_left
                              · intro w'
                                go_simp
                                with_reducible rfl
                              rotate_left
                              · simp only [Act.put, List.setIfInBounds_toArray, List.set_cons_zero, List.set_cons_succ, i64_w, i32_w]
                                rfl
                              refine pure_ (i := 5) (N := some 76) (v := ?_) (a' := ?_) #[true, true, true, true, false, true, false, false, false, false, false] rfl rfl (any_of HT_.out (by kernel_rfl)) (fun _ _ _ h => h) (Or.inl ⟨by rfl, ?_⟩) ?_ ?_
                              rotate_left
                              · intro w'
                                go_simp
                                with_reducible rfl
                              rotate_left
                              · simp only [Act.put, List.setIfInBounds_toArray, List.set_cons_zero, List.set_cons_succ, i64_w, i32_w]
                                rfl
                              refine pure_ (i := 6) (N := some 77) (v := ?_) (a' := ?_) #[true, true, true, true, false, true, true, false, false, false, false] rfl rfl (any_of HT_.out (by kernel_rfl)) (fun _ _ _ h => h) (Or.inl ⟨by rfl, ?_⟩) ?_ ?_
                              rotate_left
                              · intro w'
                                go_simp
                                with_reducible rfl
                              rotate_left
                              · simp only [Act.put, List.setIfInBounds_toArray, List.set_cons_zero, List.set_cons_succ, i64_w, i32_w]
                                rfl
                              refine pure_ (i := 7) (N := some 78) (v := ?_) (a' := ?_) #[true, true, true, true, false, true, true, true, false, false, false] rfl rfl (any_of HT_.out (by kernel_rfl)) (fun _ _ _ h => h) (Or.inl ⟨by rfl, ?_⟩) ?_ ?_
                              rotate_left
                              · intro w'
                                go_simp
                                with_reducible rfl
                              rotate_left
                              · simp only [Act.put, List.setIfInBounds_toArray, List.set_cons_zero, List.set_cons_succ, i64_w, i32_w]
                                rfl
                              refine pure_ (i := 8) (N := some 79) (v := ?_) (a' := ?_) #[true, true, true, true, false, true, true, true, true, false, false] rfl rfl (any_of HT_.out (by kernel_rfl)) (fun _ _ _ h => h) (Or.inl ⟨by rfl, ?_⟩) ?_ ?_
                              rotate_left
                              · intro w'
                                go_simp
                                with_reducible rfl
                              rotate_left
                              · simp only [Act.put, List.setIfInBounds_toArray, List.set_cons_zero, List.set_cons_succ, i64_w, i32_w]
                                rfl
                              refine take_ (i := 4) (N := some 75) (v := ?_) (a' := ?_) #[true, true, true, true, true, true, true, true, true, false, false] rfl rfl (take_ofW HT_.out HW_.out (by kernel_rfl)) (fun _ _ _ h => h) (Or.inl ⟨by rfl, ?_⟩) hHeld ?_ ?_
                              rotate_left
                              · rintro w' ⟨s0, s1, s2, s3, s4, s5, s6, s7, s8, s9⟩
                                go_simp
                                with_reducible rfl
                              rotate_left
                              · simp only [Act.put, List.setIfInBounds_toArray, List.set_cons_zero, List.set_cons_succ, i64_w, i32_w]
                                rfl
                              refine take_ (i := 9) (N := some 80) (v := ?_) (a' := ?_) #[true, true, true, true, true, true, true, true, true, true, false] rfl rfl (take_ofW HT_.out HW_.out (by kernel_rfl)) (fun _ _ _ h => h) (Or.inl ⟨by rfl, ?_⟩) hHeld ?_ ?_
                              rotate_left
                              · rintro w' ⟨s0, s1, s2, s3, s4, s5, s6, s7, s8, s9⟩
                                go_simp
                                with_reducible rfl
                              rotate_left
                              · simp only [Act.put, List.setIfInBounds_toArray, List.set_cons_zero, List.set_cons_succ, i64_w, i32_w]
                                rfl
                              refine pure_ (i := 10) (N := some 81) (v := ?_) (a' := ?_) #[true, true, true, true, true, true, true, true, true, true, true] rfl rfl (any_of HT_.out (by kernel_rfl)) (fun _ _ _ h => h) (Or.inl ⟨by rfl, ?_⟩) ?_ ?_
                              rotate_left
                              · intro w'
                                go_simp
                                with_reducible rfl
                              rotate_left
                              · simp only [Act.put, List.setIfInBounds_toArray, List.set_cons_zero, List.set_cons_succ, i64_w, i32_w]
                                rfl
                              refine done_ (done_of HT_.out (by kernel_rfl)) ?_
                              have p178 : 0 ≤ ((ji89) : Int) := of_decide_eq_true (by first | (with_reducible assumption) | assumption)
                              have q178 : (ji89) < (y156.length : Int) := of_decide_eq_true (by first | (with_reducible assumption) | assumption)
                              obtain ⟨ad178, e178, hx178_0, hx178_1, hx178_2, hx178_3, hx178_4⟩ := at_T28 (Kd.R_reads' HO158.out).2.2 (ji89) p178 q178
                              obtain rfl : ad176 = ad178 := (by injection e178)
                              replace p178 := eq_true p178
                              replace q178 := eq_true q178
                              have p93 : 0 ≤ ((ji89) : Int) := of_decide_eq_true (by first | (with_reducible assumption) | assumption)
                              have q93 : ((ji89) : Int) < ((y156.length : Int) : Int) := of_decide_eq_true (by first | (with_reducible assumption) | assumption)
                              obtain ⟨go93, co93, eo93, gb93, gl93, cl93, HG93⟩ := Kd.R_form HO158.out (by omega)
                              (first | cases eo93 | (injection eo93 with ea_ en_ ec_; (first | subst ea_ | (injection ea_ with ea_; subst ea_)); subst ec_; clear en_))
                              have GB93 := Aside0.mk gb93
                              have GG93 := Aside0.mk HG93
                              clear gb93 gl93 HG93
                              (first | simp only [add_plain] at hx176_0 | skip)
                              (first | simp only [add_plain] at hx176_1 | skip)
                              (first | simp only [add_plain] at hx176_2 | skip)
                              (first | simp only [add_plain] at hx176_3 | skip)
                              (first | simp only [add_plain] at hx176_4 | skip)
                              (first | simp only [add_plain] at hx177_0 | skip)
                              (first | simp only [add_plain] at hx177_1 | skip)
                              (first | simp only [add_plain] at hx177_2 | skip)
                              (first | simp only [add_plain] at hx177_3 | skip)
                              (first | simp only [add_plain] at hx177_4 | skip)
                              (first | simp only [add_plain] at hx178_0 | skip)
                              (first | simp only [add_plain] at hx178_1 | skip)
                              (first | simp only [add_plain] at hx178_2 | skip)
                              (first | simp only [add_plain] at hx178_3 | skip)
                              (first | simp only [add_plain] at hx178_4 | skip)
                              obtain ⟨ce93, hcl93, hM93, hcc93, hfr93⟩ := Kd.R_elem HO158.out z28 ((ji89) : Int) p93 q93
                              obtain rfl := k28_openM hM93
                              have hx93_0 : w109.cell? ⟨go93, ((ji89) : Int).toNat * 5, none⟩ = some (.int .i64 ((rd_T28 y156 (ji89)).f0)) := hcc93 0 _ rfl
                              have hx93_1 : w109.cell? ⟨go93, ((ji89) : Int).toNat * 5 + 1, none⟩ = some (.int .i64 ((rd_T28 y156 (ji89)).f1)) := hcc93 1 _ rfl
                              have hx93_2 : w109.cell? ⟨go93, ((ji89) : Int).toNat * 5 + 2, none⟩ = some (.int .i64 ((rd_T28 y156 (ji89)).f2)) := hcc93 2 _ rfl
                              have hx93_3 : w109.cell? ⟨go93, ((ji89) : Int).toNat * 5 + 3, none⟩ = some (.int .i64 ((rd_T28 y156 (ji89)).f3)) := hcc93 3 _ rfl
                              have hx93_4 : w109.cell? ⟨go93, ((ji89) : Int).toNat * 5 + 4, none⟩ = some (.int .i64 ((rd_T28 y156 (ji89)).f4)) := hcc93 4 _ rfl
                              have hf93_0 : w109.frozen? ⟨go93, ((ji89) : Int).toNat * 5, none⟩ = false := hfr93 0
                              have hf93_1 : w109.frozen? ⟨go93, ((ji89) : Int).toNat * 5 + 1, none⟩ = false := hfr93 1
                              have hf93_2 : w109.frozen? ⟨go93, ((ji89) : Int).toNat * 5 + 2, none⟩ = false := hfr93 2
                              have hf93_3 : w109.frozen? ⟨go93, ((ji89) : Int).toNat * 5 + 3, none⟩ = false := hfr93 3
                              have hf93_4 : w109.frozen? ⟨go93, ((ji89) : Int).toNat * 5 + 4, none⟩ = false := hfr93 4
                              clear hcl93 hcc93 hfr93 hM93
                              replace p93 := eq_true p93
                              replace q93 := eq_true q93
                              have HX111 := Aside0.mk (show Kd.R k28 28 w109 w.heap.size (fun k_ => some k_ ≠ (.slice Ao105 x8_5.length co105 : Value).ownBlock) (.slice (some ⟨go93, 0, none⟩) y156.length co110) y156 from (by (with_reducible repeat (first | apply Kd.R_alloc | apply Kd.R_drewN | apply Kd.R_drew)); exact HO158.out))
                              obtain ⟨ce111, hcl111, hM111, hcc111, hfr111⟩ := Kd.R_elem HX111.out z28 ((ji89) : Int) (of_decide_eq_true (by first | (with_reducible assumption) | assumption)) (by have h_ : ((ji89) : Int) < ((y156.length : Int) : Int) := of_decide_eq_true (by first | (with_reducible assumption) | assumption); first | exact h_ | (have e_ := (Kd.R_reads' HO158.out).1; omega) | simpa using h_)
                              obtain rfl := k28_openM hM111
                              have HP111 := Kd.R_seg HX111.out ((ji89) : Int) (of_decide_eq_true (by first | (with_reducible assumption) | assumption)) (by have h_ : ((ji89) : Int) < ((y156.length : Int) : Int) := of_decide_eq_true (by first | (with_reducible assumption) | assumption); first | exact h_ | (have e_ := (Kd.R_reads' HO158.out).1; omega) | simpa using h_) (seg := [.int .i64 (wrap64 (((rd_T28 y156 (ji89)).f2) + 1))]) (j := 2) hcl111 hcc111 (show 3 ≤ 5 from by decide) (x' := (⟨(rd_T28 y156 (ji89)).f0, (rd_T28 y156 (ji89)).f1, wrap64 (((rd_T28 y156 (ji89)).f2) + 1), (rd_T28 y156 (ji89)).f3, (rd_T28 y156 (ji89)).f4⟩ : S28)) (k28_mkM _ _ _ (⟨(rd_T28 y156 (ji89)).f0, (rd_T28 y156 (ji89)).f1, wrap64 (((rd_T28 y156 (ji89)).f2) + 1), (rd_T28 y156 (ji89)).f3, (rd_T28 y156 (ji89)).f4⟩ : S28) ) (fun _ hk => hk)
                              have hx111_2 := hcc111 2 _ rfl
                              (try simp only [show (k28).sz = 5 from rfl, Nat.mul_one, Nat.add_zero] at hx111_2)
                              have hf111_2 := hfr111 2
                              (try simp only [show (k28).sz = 5 from rfl, Nat.mul_one, Nat.add_zero] at hf111_2)
                              clear hcl111 hcc111 hfr111 hM111
                              try go_wp2_with (first | ((with_reducible refine gate_store (t := 2) (p := 89) rfl ?_); refine store_event (t := 2) (p := 89) (v := ?vo_w112) (w1 := (w109.setCell ⟨go93, ((ji89) : Int).toNat * 5 + 2, none⟩ (.int .i64 (wrap64 (((rd_T28 y156 (ji89)).f2) + 1))))) ?hg ?ho ?hn ?hr ?_; (case ho => rfl); (case hg => rfl); (case hn => rfl); (case hr => first | (go_simp; done) | (go_simp; rfl)); intro w112 hw; have hg : w109.grownBy w112 (some go93) := (by rw [hw]; exact HP111.2); have hp_ : Kd.R k28 28 w112 w.heap.size (fun k_ => some k_ ≠ (.slice Ao105 x8_5.length co105 : Value).ownBlock) (.slice (some ⟨go93, 0, none⟩) y156.length co110) y179 := (by rw [hw, Ny179.out]; exact HP111.1); clear HP111; have n0_ := Aside0.mk (Kd.R_after (v := (.slice (some ⟨go93, 0, none⟩) y156.length co110)) (v1 := (.slice (some ⟨go93, 0, none⟩) y156.length co110)) (ok := (fun _ => True)) (by (with_reducible repeat (first | apply Kd.R_alloc | apply Kd.R_drewN | apply Kd.R_drew)); exact HO_8.out) hg (.inl rfl)); have n1_ := Aside0.mk (hp_); have n2_ := Aside0.mk ((by rw [hw]; exact below_set (HB.out) GB93.out : Below w.heap.size w w112)); clear HO_8; clear HO158; clear HB; have HO_8 := n0_; have HO158 := n1_; have HB := n2_; clear n0_ n1_ n2_; clear hg hw hp_))
                              go_ret
                              exact ⟨by first | rfl | (simp [errW_none, errW_some] <;> rfl) | (simp only [← hji89]; first | rfl | (simp [errW_none, errW_some] <;> rfl)) | (simp [*, errW_none, errW_some] <;> rfl), by repeat (first | (with_reducible first | exact HB.out | apply below_alloc | apply pw_below_drewN | apply below_drew1) | exact HB.out)⟩
                          · rw [if_neg c92] at H
                            have c92b0 : decide (((rd_T28 y156 (ji89)).f2) < ((rd_T28 y156 (ji89)).f3)) = false := decide_eq_false c92
                            clear c92
                            by_cases c113 : t145 = true
                            · subst c113
                              have H1 : ((qpa_Test.f kj12 y156).bind fun t181 => (some (t181 == 0))) = some r := by rw [if_pos rfl] at H; exact H
                              clear H
                              have H := H1
                              clear H1
                              replace H := Option.bind_eq_some_iff.mp H
                              obtain ⟨t181, A1140, H⟩ := H
                              replace H : (some (t181 == 0)) = some r := H
                              have A114 := Aside0.mk A1140
                              clear A1140
                              obtain rfl := Option.some.inj H
                              obtain ⟨Ao115, co115, eo115⟩ := Kd.R_slice HO_8.out
                              subst eo115
                              try go_wp2_with (first | ((with_reducible refine gate_dst (N := 38) rfl ?_); refine Kd.R_lit k28 _ 28 ?hg (N := 38) ?hd (xs := ([] : List (S28))) (inner := []) (ok := fun _ => True) (okp := fun _ => True) ?hr ?hp (fun _ hk => hk) trivial (Below.refl _ _) (Nat.le_refl _) (by simp) ?_; (case hd => rfl); (case hg => rfl); (case hr => first | (go_simp; done) | (go_simp; rfl)); (case hp => exact (Reps.none _ _)); intro v154 w116 ho117 hb hg_ hnew_; clear hg_ hnew_; (first | rw [← Ny153.out] at ho117 | (simp only [Int.reduceToNat] at ho117; rw [← Ny153.out] at ho117)); have n0_ := Aside0.mk (Kd.R_elder' (by (with_reducible repeat (first | apply Kd.R_alloc | apply Kd.R_drewN | apply Kd.R_drew)); exact HO_8.out) (Kd.R_base ho117) hb); have n1_ := Aside0.mk (Kd.R_lower (Kd.R_new' ho117 (Kd.R_lt (by (with_reducible repeat (first | apply Kd.R_alloc | apply Kd.R_drewN | apply Kd.R_drew)); exact HO_8.out))) (below_size (by repeat (first | (with_reducible first | exact HB.out | apply below_alloc | apply pw_below_drewN | apply below_drew1) | exact HB.out)))); have n2_ := Aside0.mk (below_step (by repeat (first | (with_reducible first | exact HB.out | apply below_alloc | apply pw_below_drewN | apply below_drew1) | exact HB.out)) hb); clear HO_8; clear HB; have HO_8 := n0_; have HO155 := n1_; have HB := n2_; clear n0_ n1_ n2_; clear hb ho117) | ((with_reducible refine gate_builtin (b := .append) (xs := #[.tmp 38, .tmp 39]) rfl ?_); at_builtin; refine Kd.R_append_rows k28 (w0 := w) w.heap.size rfl (.tmp 38) (.tmp 39) 24 28 (.agg #[(.int .i64 0), (.int .i64 0), (.int .i64 0), (.int .i64 0), (.int .i64 0)]) 40 rfl Try.underlying24 info28 rfl (by decide) (by omega) v154 y153 x8_5 _ _ _ (fun k_ => some k_ ≠ (.slice Ao115 x8_5.length co115 : Value).ownBlock) (fun _ => False) rfl rfl ?aO ?aR (fun _ _ h => h) (fun _ h => h.elim) ?aF ?aB ?aS ?aL ?_; (case aR => repeat (first | exact (Kd.R_reads' HO_8.out).2.2 | (with_reducible refine Kd.C_alloc ?_ _) | (with_reducible refine Kd.C_drewN ?_ _) | (with_reducible refine Kd.C_drew ?_))); (case aB => exact (by repeat (first | (with_reducible first | exact HB.out | apply below_alloc | apply pw_below_drewN | apply below_drew1) | exact HB.out))); (case aF => exact (fun k_ hk => Kd.fresh' (Kd.R_lt (by (with_reducible repeat (first | apply Kd.R_alloc | apply Kd.R_drewN | apply Kd.R_drew)); exact HO_8.out)) k_ hk)); (case aO => exact (by (with_reducible repeat (first | apply Kd.R_alloc | apply Kd.R_drewN | apply Kd.R_drew)); exact Kd.R_mono HO155.out (fun _ hk => hk.2))); (case aS => exact (below_size (by repeat (first | (with_reducible first | exact HB.out | apply below_alloc | apply pw_below_drewN | apply below_drew1) | exact HB.out)))); (case aL => have := LMc21.out; omega); intro v157 w118 ho hb hg hat; rw [← Ny156.out] at ho; have n0_ := Aside0.mk (Kd.R_after (ok := (fun _ => True)) (by (with_reducible repeat (first | apply Kd.R_alloc | apply Kd.R_drewN | apply Kd.R_drew)); exact HO_8.out) hg hat); have n1_ := Aside0.mk (hb); have n2_ := Aside0.mk (ho); clear HO_8; clear HB; clear HO155; have HO_8 := n0_; have HB := n1_; have HO158 := n2_; clear n0_ n1_ n2_; clear ho hb hg hat))
                              have n0_ := Aside0.mk (Kd.R_drew HO_8.out)
                              have n1_ := Aside0.mk (Kd.R_drew HO158.out)
                              have n2_ := Aside0.mk (below_drew1 HB.out)
                              clear HO_8
                              clear HO158
                              clear HB
                              have HO_8 := n0_
                              have HO158 := n1_
                              have HB := n2_
                              clear n0_ n1_ n2_
                              obtain ⟨Ao120, co120, eo120⟩ := Kd.R_slice HO158.out
                              (first | subst eo120 | (injection eo120 with f1_ f2_ f3_; have f4_ := f1_.symm; have f5_ := f3_.symm; clear f1_ f2_ f3_; subst f4_; subst f5_))
                              have p176 : 0 ≤ ((ji89) : Int) := of_decide_eq_true (by first | (with_reducible assumption) | assumption)
                              have q176 : (ji89) < (y156.length : Int) := of_decide_eq_true (by first | (with_reducible assumption) | assumption)
                              obtain ⟨ad176, e176, hx176_0, hx176_1, hx176_2, hx176_3, hx176_4⟩ := at_T28 (Kd.R_reads' HO158.out).2.2 (ji89) p176 q176
                              cases e176
                              replace p176 := eq_true p176
                              replace q176 := eq_true q176
                              have p177 : 0 ≤ ((ji89) : Int) := of_decide_eq_true (by first | (with_reducible assumption) | assumption)
                              have q177 : (ji89) < (y156.length : Int) := of_decide_eq_true (by first | (with_reducible assumption) | assumption)
                              obtain ⟨ad177, e177, hx177_0, hx177_1, hx177_2, hx177_3, hx177_4⟩ := at_T28 (Kd.R_reads' HO158.out).2.2 (ji89) p177 q177
                              obtain rfl : ad176 = ad177 := (by injection e177)
                              replace p177 := eq_true p177
                              replace q177 := eq_true q177
                              refine start_ (n := 11) (S := fun w' => w'.cell? (ad176.add (((ji89)).toNat * 5)) = some (.int .i64 ((rd_T28 y156 (ji89)).f0)) ∧ w'.cell? ⟨(ad176.add (((ji89)).toNat * 5)).block, (ad176.add (((ji89)).toNat * 5)).off + 1, none⟩ = some (.int .i64 ((rd_T28 y156 (ji89)).f1)) ∧ w'.cell? ⟨(ad176.add (((ji89)).toNat * 5)).block, (ad176.add (((ji89)).toNat * 5)).off + 2, none⟩ = some (.int .i64 ((rd_T28 y156 (ji89)).f2)) ∧ w'.cell? ⟨(ad176.add (((ji89)).toNat * 5)).block, (ad176.add (((ji89)).toNat * 5)).off + 3, none⟩ = some (.int .i64 ((rd_T28 y156 (ji89)).f3)) ∧ w'.cell? ⟨(ad176.add (((ji89)).toNat * 5)).block, (ad176.add (((ji89)).toNat * 5)).off + 4, none⟩ = some (.int .i64 ((rd_T28 y156 (ji89)).f4)) ∧ w'.cell? (ad176.add (((ji89)).toNat * 5)) = some (.int .i64 ((rd_T28 y156 (ji89)).f0)) ∧ w'.cell? ⟨(ad176.add (((ji89)).toNat * 5)).block, (ad176.add (((ji89)).toNat * 5)).off + 1, none⟩ = some (.int .i64 ((rd_T28 y156 (ji89)).f1)) ∧ w'.cell? ⟨(ad176.add (((ji89)).toNat * 5)).block, (ad176.add (((ji89)).toNat * 5)).off + 2, none⟩ = some (.int .i64 ((rd_T28 y156 (ji89)).f2)) ∧ w'.cell? ⟨(ad176.add (((ji89)).toNat * 5)).block, (ad176.add (((ji89)).toNat * 5)).off + 3, none⟩ = some (.int .i64 ((rd_T28 y156 (ji89)).f3)) ∧ w'.cell? ⟨(ad176.add (((ji89)).toNat * 5)).block, (ad176.add (((ji89)).toNat * 5)).off + 4, none⟩ = some (.int .i64 ((rd_T28 y156 (ji89)).f4))) (ds := []) #[false, false, false, false, false, false, false, false, false, false, false] (by kernel_rfl) rfl rfl ⟨hx176_0, hx176_1, hx176_2, hx176_3, hx176_4, hx177_0, hx177_1, hx177_2, hx177_3, hx177_4⟩ (fun hHeld => ?_); refine with_tabW horariumlaw12_QpaLess.tab16 horariumlaw12_QpaLess.bits16 (fun HT_ HW_ => ?_)
                              generalize w118.drew = w119 at HO_8 HO158 HB hx176_0 hx176_1 hx176_2 hx176_3 hx176_4 hx177_0 hx177_1 hx177_2 hx177_3 hx177_4 hHeld ⊢
                              refine pure_ (i := 0) (N := some 71) (v := ?_) (a' := ?_) #[true, false, false, false, false, false, false, false, false, false, false] rfl rfl (any_of HT_.out (by kernel_rfl)) (fun _ _ _ h => h) (Or.inl ⟨by rfl, ?_⟩) ?_ ?_
                              rotate_left
                              · intro w'
                                go_simp
                                with_reducible rfl
                              rotate_left
                              · simp only [Act.put, List.setIfInBounds_toArray, List.set_cons_zero, List.set_cons_succ, i64_w, i32_w]
                                rfl
                              refine pure_ (i := 1) (N := some 72) (v := ?_) (a' := ?_) #[true, true, false, false, false, false, false, false, false, false, false] rfl rfl (any_of HT_.out (by kernel_rfl)) (fun _ _ _ h => h) (Or.inl ⟨by rfl, ?_⟩) ?_ ?_
                              rotate_left
                              · intro w'
                                go_simp
                                with_reducible rfl
                              rotate_left
                              · simp only [Act.put, List.setIfInBounds_toArray, List.set_cons_zero, List.set_cons_succ, i64_w, i32_w]
                                rfl
                              refine pure_ (i := 2) (N := some 73) (v := ?_) (a' := ?_) #[true, true, true, false, false, false, false, false, false, false, false] rfl rfl (any_of HT_.out (by kernel_rfl)) (fun _ _ _ h => h) (Or.inl ⟨by rfl, ?_⟩) ?_ ?_
                              rotate_left
                              · intro w'
                                go_simp
                                with_reducible rfl
                              rotate_left
                              · simp only [Act.put, List.setIfInBounds_toArray, List.set_cons_zero, List.set_cons_succ, i64_w, i32_w]
                                rfl
                              refine pure_ (i := 3) (N := some 74) (v := ?_) (a' := ?_) #[true, true, true, true, false, false, false, false, false, false, false] rfl rfl (any_of HT_.out (by kernel_rfl)) (fun _ _ _ h => h) (Or.inl ⟨by rfl, ?_⟩) ?_ ?_
                              rotate_left
                              · intro w'
                                go_simp
                                with_reducible rfl
                              rotate_left
                              · simp only [Act.put, List.setIfInBounds_toArray, List.set_cons_zero, List.set_cons_succ, i64_w, i32_w]
                                rfl
                              refine pure_ (i := 5) (N := some 76) (v := ?_) (a' := ?_) #[true, true, true, true, false, true, false, false, false, false, false] rfl rfl (any_of HT_.out (by kernel_rfl)) (fun _ _ _ h => h) (Or.inl ⟨by rfl, ?_⟩) ?_ ?_
                              rotate_left
                              · intro w'
                                go_simp
                                with_reducible rfl
                              rotate_left
                              · simp only [Act.put, List.setIfInBounds_toArray, List.set_cons_zero, List.set_cons_succ, i64_w, i32_w]
                                rfl
                              refine pure_ (i := 6) (N := some 77) (v := ?_) (a' := ?_) #[true, true, true, true, false, true, true, false, false, false, false] rfl rfl (any_of HT_.out (by kernel_rfl)) (fun _ _ _ h => h) (Or.inl ⟨by rfl, ?_⟩) ?_ ?_
                              rotate_left
                              · intro w'
                                go_simp
                                with_reducible rfl
                              rotate_left
                              · simp only [Act.put, List.setIfInBounds_toArray, List.set_cons_zero, List.set_cons_succ, i64_w, i32_w]
                                rfl
                              refine pure_ (i := 7) (N := some 78) (v := ?_) (a' := ?_) #[true, true, true, true, false, true, true, true, false, false, false] rfl rfl (any_of HT_.out (by kernel_rfl)) (fun _ _ _ h => h) (Or.inl ⟨by rfl, ?_⟩) ?_ ?_
                              rotate_left
                              · intro w'
                                go_simp
                                with_reducible rfl
                              rotate_left
                              · simp only [Act.put, List.setIfInBounds_toArray, List.set_cons_zero, List.set_cons_succ, i64_w, i32_w]
                                rfl
                              refine pure_ (i := 8) (N := some 79) (v := ?_) (a' := ?_) #[true, true, true, true, false, true, true, true, true, false, false] rfl rfl (any_of HT_.out (by kernel_rfl)) (fun _ _ _ h => h) (Or.inl ⟨by rfl, ?_⟩) ?_ ?_
                              rotate_left
                              · intro w'
                                go_simp
                                with_reducible rfl
                              rotate_left
                              · simp only [Act.put, List.setIfInBounds_toArray, List.set_cons_zero, List.set_cons_succ, i64_w, i32_w]
                                rfl
                              refine take_ (i := 4) (N := some 75) (v := ?_) (a' := ?_) #[true, true, true, true, true, true, true, true, true, false, false] rfl rfl (take_ofW HT_.out HW_.out (by kernel_rfl)) (fun _ _ _ h => h) (Or.inl ⟨by rfl, ?_⟩) hHeld ?_ ?_
                              rotate_left
                              · rintro w' ⟨s0, s1, s2, s3, s4, s5, s6, s7, s8, s9⟩
                                go_simp
                                with_reducible rfl
                              rotate_left
                              · simp only [Act.put, List.setIfInBounds_toArray, List.set_cons_zero, List.set_cons_succ, i64_w, i32_w]
                                rfl
                              refine take_ (i := 9) (N := some 80) (v := ?_) (a' := ?_) #[true, true, true, true, true, true, true, true, true, true, false] rfl rfl (take_ofW HT_.out HW_.out (by kernel_rfl)) (fun _ _ _ h => h) (Or.inl ⟨by rfl, ?_⟩) hHeld ?_ ?_
                              rotate_left
                              · rintro w' ⟨s0, s1, s2, s3, s4, s5, s6, s7, s8, s9⟩
                                go_simp
                                with_reducible rfl
                              rotate_left
                              · simp only [Act.put, List.setIfInBounds_toArray, List.set_cons_zero, List.set_cons_succ, i64_w, i32_w]
                                rfl
                              refine pure_ (i := 10) (N := some 81) (v := ?_) (a' := ?_) #[true, true, true, true, true, true, true, true, true, true, true] rfl rfl (any_of HT_.out (by kernel_rfl)) (fun _ _ _ h => h) (Or.inl ⟨by rfl, ?_⟩) ?_ ?_
                              rotate_left
                              · intro w'
                                go_simp
                                with_reducible rfl
                              rotate_left
                              · simp only [Act.put, List.setIfInBounds_toArray, List.set_cons_zero, List.set_cons_succ, i64_w, i32_w]
                                rfl
                              refine done_ (done_of HT_.out (by kernel_rfl)) ?_
                              try go_wp2_with (first | (go_at_call 29; (with_reducible refine (qpa_Test.calls kj12 _ _ y156 t181 _ ?side1 ?side2 A114.out).mono ?_); (case side1 => repeat (first | exact (Kd.R_reads' HO158.out).2.2 | (with_reducible refine Kd.C_alloc ?_ _) | (with_reducible refine Kd.C_drewN ?_ _) | (with_reducible refine Kd.C_drew ?_))); (case side2 => exact (Kd.R_reads' HO158.out).2.1); rintro e w121 ⟨rfl, hb⟩; have n0_ := Aside0.mk (Kd.R_below (by (with_reducible repeat (first | apply Kd.R_alloc | apply Kd.R_drewN | apply Kd.R_drew)); exact HO_8.out) hb); have n1_ := Aside0.mk (Kd.R_below (by (with_reducible repeat (first | apply Kd.R_alloc | apply Kd.R_drewN | apply Kd.R_drew)); exact HO158.out) hb); have n2_ := Aside0.mk (below_step (by repeat (first | (with_reducible first | exact HB.out | apply below_alloc | apply pw_below_drewN | apply below_drew1) | exact HB.out)) hb); clear HO_8; clear HO158; clear HB; have HO_8 := n0_; have HO158 := n1_; have HB := n2_; clear n0_ n1_ n2_; (try clear hb); (try clear hb2); (try clear hk); (try clear hi)))
                              go_ret
                              exact ⟨by first | rfl | (simp [errW_none, errW_some] <;> rfl) | (simp only [← hji89]; first | rfl | (simp [errW_none, errW_some] <;> rfl)) | (simp [*, errW_none, errW_some] <;> rfl), by repeat (first | (with_reducible first | exact HB.out | apply below_alloc | apply pw_below_drewN | apply below_drew1) | exact HB.out)⟩
                            · replace c113 := Bool.eq_false_iff.mpr c113
                              subst c113
                              have H1 : (some false) = some r := by rw [if_neg (show ¬ (false = true) by decide)] at H; exact H
                              clear H
                              have H := H1
                              clear H1
                              obtain rfl := Option.some.inj H
                              obtain ⟨Ao122, co122, eo122⟩ := Kd.R_slice HO_8.out
                              subst eo122
                              try go_wp2_with (first | ((with_reducible refine gate_dst (N := 38) rfl ?_); refine Kd.R_lit k28 _ 28 ?hg (N := 38) ?hd (xs := ([] : List (S28))) (inner := []) (ok := fun _ => True) (okp := fun _ => True) ?hr ?hp (fun _ hk => hk) trivial (Below.refl _ _) (Nat.le_refl _) (by simp) ?_; (case hd => rfl); (case hg => rfl); (case hr => first | (go_simp; done) | (go_simp; rfl)); (case hp => exact (Reps.none _ _)); intro v154 w123 ho124 hb hg_ hnew_; clear hg_ hnew_; (first | rw [← Ny153.out] at ho124 | (simp only [Int.reduceToNat] at ho124; rw [← Ny153.out] at ho124)); have n0_ := Aside0.mk (Kd.R_elder' (by (with_reducible repeat (first | apply Kd.R_alloc | apply Kd.R_drewN | apply Kd.R_drew)); exact HO_8.out) (Kd.R_base ho124) hb); have n1_ := Aside0.mk (Kd.R_lower (Kd.R_new' ho124 (Kd.R_lt (by (with_reducible repeat (first | apply Kd.R_alloc | apply Kd.R_drewN | apply Kd.R_drew)); exact HO_8.out))) (below_size (by repeat (first | (with_reducible first | exact HB.out | apply below_alloc | apply pw_below_drewN | apply below_drew1) | exact HB.out)))); have n2_ := Aside0.mk (below_step (by repeat (first | (with_reducible first | exact HB.out | apply below_alloc | apply pw_below_drewN | apply below_drew1) | exact HB.out)) hb); clear HO_8; clear HB; have HO_8 := n0_; have HO155 := n1_; have HB := n2_; clear n0_ n1_ n2_; clear hb ho124) | ((with_reducible refine gate_builtin (b := .append) (xs := #[.tmp 38, .tmp 39]) rfl ?_); at_builtin; refine Kd.R_append_rows k28 (w0 := w) w.heap.size rfl (.tmp 38) (.tmp 39) 24 28 (.agg #[(.int .i64 0), (.int .i64 0), (.int .i64 0), (.int .i64 0), (.int .i64 0)]) 40 rfl Try.underlying24 info28 rfl (by decide) (by omega) v154 y153 x8_5 _ _ _ (fun k_ => some k_ ≠ (.slice Ao122 x8_5.length co122 : Value).ownBlock) (fun _ => False) rfl rfl ?aO ?aR (fun _ _ h => h) (fun _ h => h.elim) ?aF ?aB ?aS ?aL ?_; (case aR => repeat (first | exact (Kd.R_reads' HO_8.out).2.2 | (with_reducible refine Kd.C_alloc ?_ _) | (with_reducible refine Kd.C_drewN ?_ _) | (with_reducible refine Kd.C_drew ?_))); (case aB => exact (by repeat (first | (with_reducible first | exact HB.out | apply below_alloc | apply pw_below_drewN | apply below_drew1) | exact HB.out))); (case aF => exact (fun k_ hk => Kd.fresh' (Kd.R_lt (by (with_reducible repeat (first | apply Kd.R_alloc | apply Kd.R_drewN | apply Kd.R_drew)); exact HO_8.out)) k_ hk)); (case aO => exact (by (with_reducible repeat (first | apply Kd.R_alloc | apply Kd.R_drewN | apply Kd.R_drew)); exact Kd.R_mono HO155.out (fun _ hk => hk.2))); (case aS => exact (below_size (by repeat (first | (with_reducible first | exact HB.out | apply below_alloc | apply pw_below_drewN | apply below_drew1) | exact HB.out)))); (case aL => have := LMc21.out; omega); intro v157 w125 ho hb hg hat; rw [← Ny156.out] at ho; have n0_ := Aside0.mk (Kd.R_after (ok := (fun _ => True)) (by (with_reducible repeat (first | apply Kd.R_alloc | apply Kd.R_drewN | apply Kd.R_drew)); exact HO_8.out) hg hat); have n1_ := Aside0.mk (hb); have n2_ := Aside0.mk (ho); clear HO_8; clear HB; clear HO155; have HO_8 := n0_; have HB := n1_; have HO158 := n2_; clear n0_ n1_ n2_; clear ho hb hg hat))
                              have n0_ := Aside0.mk (Kd.R_drew HO_8.out)
                              have n1_ := Aside0.mk (Kd.R_drew HO158.out)
                              have n2_ := Aside0.mk (below_drew1 HB.out)
                              clear HO_8
                              clear HO158
                              clear HB
                              have HO_8 := n0_
                              have HO158 := n1_
                              have HB := n2_
                              clear n0_ n1_ n2_
                              obtain ⟨Ao127, co127, eo127⟩ := Kd.R_slice HO158.out
                              (first | subst eo127 | (injection eo127 with f1_ f2_ f3_; have f4_ := f1_.symm; have f5_ := f3_.symm; clear f1_ f2_ f3_; subst f4_; subst f5_))
                              have p176 : 0 ≤ ((ji89) : Int) := of_decide_eq_true (by first | (with_reducible assumption) | assumption)
                              have q176 : (ji89) < (y156.length : Int) := of_decide_eq_true (by first | (with_reducible assumption) | assumption)
                              obtain ⟨ad176, e176, hx176_0, hx176_1, hx176_2, hx176_3, hx176_4⟩ := at_T28 (Kd.R_reads' HO158.out).2.2 (ji89) p176 q176
                              cases e176
                              replace p176 := eq_true p176
                              replace q176 := eq_true q176
                              have p177 : 0 ≤ ((ji89) : Int) := of_decide_eq_true (by first | (with_reducible assumption) | assumption)
                              have q177 : (ji89) < (y156.length : Int) := of_decide_eq_true (by first | (with_reducible assumption) | assumption)
                              obtain ⟨ad177, e177, hx177_0, hx177_1, hx177_2, hx177_3, hx177_4⟩ := at_T28 (Kd.R_reads' HO158.out).2.2 (ji89) p177 q177
                              obtain rfl : ad176 = ad177 := (by injection e177)
                              replace p177 := eq_true p177
                              replace q177 := eq_true q177
                              refine start_ (n := 11) (S := fun w' => w'.cell? (ad176.add (((ji89)).toNat * 5)) = some (.int .i64 ((rd_T28 y156 (ji89)).f0)) ∧ w'.cell? ⟨(ad176.add (((ji89)).toNat * 5)).block, (ad176.add (((ji89)).toNat * 5)).off + 1, none⟩ = some (.int .i64 ((rd_T28 y156 (ji89)).f1)) ∧ w'.cell? ⟨(ad176.add (((ji89)).toNat * 5)).block, (ad176.add (((ji89)).toNat * 5)).off + 2, none⟩ = some (.int .i64 ((rd_T28 y156 (ji89)).f2)) ∧ w'.cell? ⟨(ad176.add (((ji89)).toNat * 5)).block, (ad176.add (((ji89)).toNat * 5)).off + 3, none⟩ = some (.int .i64 ((rd_T28 y156 (ji89)).f3)) ∧ w'.cell? ⟨(ad176.add (((ji89)).toNat * 5)).block, (ad176.add (((ji89)).toNat * 5)).off + 4, none⟩ = some (.int .i64 ((rd_T28 y156 (ji89)).f4)) ∧ w'.cell? (ad176.add (((ji89)).toNat * 5)) = some (.int .i64 ((rd_T28 y156 (ji89)).f0)) ∧ w'.cell? ⟨(ad176.add (((ji89)).toNat * 5)).block, (ad176.add (((ji89)).toNat * 5)).off + 1, none⟩ = some (.int .i64 ((rd_T28 y156 (ji89)).f1)) ∧ w'.cell? ⟨(ad176.add (((ji89)).toNat * 5)).block, (ad176.add (((ji89)).toNat * 5)).off + 2, none⟩ = some (.int .i64 ((rd_T28 y156 (ji89)).f2)) ∧ w'.cell? ⟨(ad176.add (((ji89)).toNat * 5)).block, (ad176.add (((ji89)).toNat * 5)).off + 3, none⟩ = some (.int .i64 ((rd_T28 y156 (ji89)).f3)) ∧ w'.cell? ⟨(ad176.add (((ji89)).toNat * 5)).block, (ad176.add (((ji89)).toNat * 5)).off + 4, none⟩ = some (.int .i64 ((rd_T28 y156 (ji89)).f4))) (ds := []) #[false, false, false, false, false, false, false, false, false, false, false] (by kernel_rfl) rfl rfl ⟨hx176_0, hx176_1, hx176_2, hx176_3, hx176_4, hx177_0, hx177_1, hx177_2, hx177_3, hx177_4⟩ (fun hHeld => ?_); refine with_tabW horariumlaw12_QpaLess.tab16 horariumlaw12_QpaLess.bits16 (fun HT_ HW_ => ?_)
                              generalize w125.drew = w126 at HO_8 HO158 HB hx176_0 hx176_1 hx176_2 hx176_3 hx176_4 hx177_0 hx177_1 hx177_2 hx177_3 hx177_4 hHeld ⊢
                              refine pure_ (i := 0) (N := some 71) (v := ?_) (a' := ?_) #[true, false, false, false, false, false, false, false, false, false, false] rfl rfl (any_of HT_.out (by kernel_rfl)) (fun _ _ _ h => h) (Or.inl ⟨by rfl, ?_⟩) ?_ ?_
                              rotate_left
                              · intro w'
                                go_simp
                                with_reducible rfl
                              rotate_left
                              · simp only [Act.put, List.setIfInBounds_toArray, List.set_cons_zero, List.set_cons_succ, i64_w, i32_w]
                                rfl
                              refine pure_ (i := 1) (N := some 72) (v := ?_) (a' := ?_) #[true, true, false, false, false, false, false, false, false, false, false] rfl rfl (any_of HT_.out (by kernel_rfl)) (fun _ _ _ h => h) (Or.inl ⟨by rfl, ?_⟩) ?_ ?_
                              rotate_left
                              · intro w'
                                go_simp
                                with_reducible rfl
                              rotate_left
                              · simp only [Act.put, List.setIfInBounds_toArray, List.set_cons_zero, List.set_cons_succ, i64_w, i32_w]
                                rfl
                              refine pure_ (i := 2) (N := some 73) (v := ?_) (a' := ?_) #[true, true, true, false, false, false, false, false, false, false, false] rfl rfl (any_of HT_.out (by kernel_rfl)) (fun _ _ _ h => h) (Or.inl ⟨by rfl, ?_⟩) ?_ ?_
                              rotate_left
                              · intro w'
                                go_simp
                                with_reducible rfl
                              rotate_left
                              · simp only [Act.put, List.setIfInBounds_toArray, List.set_cons_zero, List.set_cons_succ, i64_w, i32_w]
                                rfl
                              refine pure_ (i := 3) (N := some 74) (v := ?_) (a' := ?_) #[true, true, true, true, false, false, false, false, false, false, false] rfl rfl (any_of HT_.out (by kernel_rfl)) (fun _ _ _ h => h) (Or.inl ⟨by rfl, ?_⟩) ?_ ?_
                              rotate_left
                              · intro w'
                                go_simp
                                with_reducible rfl
                              rotate_left
                              · simp only [Act.put, List.setIfInBounds_toArray, List.set_cons_zero, List.set_cons_succ, i64_w, i32_w]
                                rfl
                              refine pure_ (i := 5) (N := some 76) (v := ?_) (a' := ?_) #[true, true, true, true, false, true, false, false, false, false, false] rfl rfl (any_of HT_.out (by kernel_rfl)) (fun _ _ _ h => h) (Or.inl ⟨by rfl, ?_⟩) ?_ ?_
                              rotate_left
                              · intro w'
                                go_simp
                                with_reducible rfl
                              rotate_left
                              · simp only [Act.put, List.setIfInBounds_toArray, List.set_cons_zero, List.set_cons_succ, i64_w, i32_w]
                                rfl
                              refine pure_ (i := 6) (N := some 77) (v := ?_) (a' := ?_) #[true, true, true, true, false, true, true, false, false, false, false] rfl rfl (any_of HT_.out (by kernel_rfl)) (fun _ _ _ h => h) (Or.inl ⟨by rfl, ?_⟩) ?_ ?_
                              rotate_left
                              · intro w'
                                go_simp
                                with_reducible rfl
                              rotate_left
                              · simp only [Act.put, List.setIfInBounds_toArray, List.set_cons_zero, List.set_cons_succ, i64_w, i32_w]
                                rfl
                              refine pure_ (i := 7) (N := some 78) (v := ?_) (a' := ?_) #[true, true, true, true, false, true, true, true, false, false, false] rfl rfl (any_of HT_.out (by kernel_rfl)) (fun _ _ _ h => h) (Or.inl ⟨by rfl, ?_⟩) ?_ ?_
                              rotate_left
                              · intro w'
                                go_simp
                                with_reducible rfl
                              rotate_left
                              · simp only [Act.put, List.setIfInBounds_toArray, List.set_cons_zero, List.set_cons_succ, i64_w, i32_w]
                                rfl
                              refine pure_ (i := 8) (N := some 79) (v := ?_) (a' := ?_) #[true, true, true, true, false, true, true, true, true, false, false] rfl rfl (any_of HT_.out (by kernel_rfl)) (fun _ _ _ h => h) (Or.inl ⟨by rfl, ?_⟩) ?_ ?_
                              rotate_left
                              · intro w'
                                go_simp
                                with_reducible rfl
                              rotate_left
                              · simp only [Act.put, List.setIfInBounds_toArray, List.set_cons_zero, List.set_cons_succ, i64_w, i32_w]
                                rfl
                              refine take_ (i := 4) (N := some 75) (v := ?_) (a' := ?_) #[true, true, true, true, true, true, true, true, true, false, false] rfl rfl (take_ofW HT_.out HW_.out (by kernel_rfl)) (fun _ _ _ h => h) (Or.inl ⟨by rfl, ?_⟩) hHeld ?_ ?_
                              rotate_left
                              · rintro w' ⟨s0, s1, s2, s3, s4, s5, s6, s7, s8, s9⟩
                                go_simp
                                with_reducible rfl
                              rotate_left
                              · simp only [Act.put, List.setIfInBounds_toArray, List.set_cons_zero, List.set_cons_succ, i64_w, i32_w]
                                rfl
                              refine take_ (i := 9) (N := some 80) (v := ?_) (a' := ?_) #[true, true, true, true, true, true, true, true, true, true, false] rfl rfl (take_ofW HT_.out HW_.out (by kernel_rfl)) (fun _ _ _ h => h) (Or.inl ⟨by rfl, ?_⟩) hHeld ?_ ?_
                              rotate_left
                              · rintro w' ⟨s0, s1, s2, s3, s4, s5, s6, s7, s8, s9⟩
                                go_simp
                                with_reducible rfl
                              rotate_left
                              · simp only [Act.put, List.setIfInBounds_toArray, List.set_cons_zero, List.set_cons_succ, i64_w, i32_w]
                                rfl
                              refine pure_ (i := 10) (N := some 81) (v := ?_) (a' := ?_) #[true, true, true, true, true, true, true, true, true, true, true] rfl rfl (any_of HT_.out (by kernel_rfl)) (fun _ _ _ h => h) (Or.inl ⟨by rfl, ?_⟩) ?_ ?_
                              rotate_left
                              · intro w'
                                go_simp
                                with_reducible rfl
                              rotate_left
                              · simp only [Act.put, List.setIfInBounds_toArray, List.set_cons_zero, List.set_cons_succ, i64_w, i32_w]
                                rfl
                              refine done_ (done_of HT_.out (by kernel_rfl)) ?_
                              try go_wp2
                              go_ret
                              exact ⟨by first | rfl | (simp [errW_none, errW_some] <;> rfl) | (simp only [← hji89]; first | rfl | (simp [errW_none, errW_some] <;> rfl)) | (simp [*, errW_none, errW_some] <;> rfl), by repeat (first | (with_reducible first | exact HB.out | apply below_alloc | apply pw_below_drewN | apply below_drew1) | exact HB.out)⟩
                        · rw [if_neg c91] at H
                          exact absurd H (by simp)
                      · rw [if_neg c90] at H
                        exact absurd H (by simp)
                    · rw [if_neg c88] at H
                      have c88b0 : ((Go.bits .and .i64 a2 3) == 2) = false := beq_eq_false_iff_ne.mpr c88
                      have c88b1 : ((Go.bits .and .i64 a2 3) != 2) = true := bne_iff_ne.mpr c88
                      by_cases c128 : (Go.bits .and .i64 a2 3) = 3
                      · rw [if_pos c128] at H
                        have c128b0 : ((Go.bits .and .i64 a2 3) == 3) = true := beq_iff_eq.mpr c128
                        have c128b1 : ((Go.bits .and .i64 a2 3) != 3) = false := bne_eq_false_iff_eq.mpr c128
                        clear c128
                        obtain ⟨ji129, hji129⟩ : ∃ j_ : Int, (Int.tmod (wrap64 ((Int.tmod a1 (x8_5.length : Int)) + (x8_5.length : Int))) (x8_5.length : Int)) = j_ := ⟨_, rfl⟩
                        replace H : (if 0 ≤ (ji129) then (if (ji129) < (y156.length : Int) then (if t145 = true then ((qpa_Test.f kj12 (y156.set ((ji129) : Int).toNat (⟨(rd_T28 y156 (ji129)).f0, (rd_T28 y156 (ji129)).f1, (rd_T28 y156 (ji129)).f2, wrap64 (2 * ((rd_T28 y156 (ji129)).f3)), (rd_T28 y156 (ji129)).f4⟩ : S28))).bind fun t184 => (some (t184 == 0))) else (some false)) else (none)) else (none)) = some r := by first | (rw [hji129] at H; exact H) | (simp only [hji129] at H ⊢; exact H)
                        by_cases c130 : 0 ≤ (ji129)
                        · rw [if_pos c130] at H
                          have c130b0 : decide (0 ≤ (ji129)) = true := decide_eq_true c130
                          clear c130
                          by_cases c131 : (ji129) < (y156.length : Int)
                          · rw [if_pos c131] at H
                            have c131b0 : decide ((ji129) < (y156.length : Int)) = true := decide_eq_true c131
                            clear c131
                            obtain ⟨y183, hy183⟩ : ∃ y_ : List (S28), y_ = (y156.set ((ji129) : Int).toNat (⟨(rd_T28 y156 (ji129)).f0, (rd_T28 y156 (ji129)).f1, (rd_T28 y156 (ji129)).f2, wrap64 (2 * ((rd_T28 y156 (ji129)).f3)), (rd_T28 y156 (ji129)).f4⟩ : S28)) := ⟨_, rfl⟩
                            replace H : (if t145 = true then ((qpa_Test.f kj12 y183).bind fun t184 => (some (t184 == 0))) else (some false)) = some r := by first | (rw [hy183]; with_reducible exact H) | (have H2_ := (Option.bind_some _ _).symm.trans H; rw [hy183]; with_reducible exact H2_) | (have H2_ := (Option.bind_some _ _).symm.trans H; with_reducible exact H2_) | with_reducible exact H | (rw [hy183]; exact H) | exact H
                            have Ny183 := Aside0.mk hy183
                            clear hy183
                            by_cases c133 : t145 = true
                            · subst c133
                              have H1 : ((qpa_Test.f kj12 y183).bind fun t184 => (some (t184 == 0))) = some r := by rw [if_pos rfl] at H; exact H
                              clear H
                              have H := H1
                              clear H1
                              replace H := Option.bind_eq_some_iff.mp H
                              obtain ⟨t184, A1340, H⟩ := H
                              replace H : (some (t184 == 0)) = some r := H
                              have A134 := Aside0.mk A1340
                              clear A1340
                              obtain rfl := Option.some.inj H
                              obtain ⟨Ao135, co135, eo135⟩ := Kd.R_slice HO_8.out
                              subst eo135
                              go_wp2_with (first | ((with_reducible refine gate_dst (N := 38) rfl ?_); refine Kd.R_lit k28 _ 28 ?hg (N := 38) ?hd (xs := ([] : List (S28))) (inner := []) (ok := fun _ => True) (okp := fun _ => True) ?hr ?hp (fun _ hk => hk) trivial (Below.refl _ _) (Nat.le_refl _) (by simp) ?_; (case hd => rfl); (case hg => rfl); (case hr => first | (go_simp; done) | (go_simp; rfl)); (case hp => exact (Reps.none _ _)); intro v154 w136 ho137 hb hg_ hnew_; clear hg_ hnew_; (first | rw [← Ny153.out] at ho137 | (simp only [Int.reduceToNat] at ho137; rw [← Ny153.out] at ho137)); have n0_ := Aside0.mk (Kd.R_elder' (by (with_reducible repeat (first | apply Kd.R_alloc | apply Kd.R_drewN | apply Kd.R_drew)); exact HO_8.out) (Kd.R_base ho137) hb); have n1_ := Aside0.mk (Kd.R_lower (Kd.R_new' ho137 (Kd.R_lt (by (with_reducible repeat (first | apply Kd.R_alloc | apply Kd.R_drewN | apply Kd.R_drew)); exact HO_8.out))) (below_size (by repeat (first | (with_reducible first | exact HB.out | apply below_alloc | apply pw_below_drewN | apply below_drew1) | exact HB.out)))); have n2_ := Aside0.mk (below_step (by repeat (first | (with_reducible first | exact HB.out | apply below_alloc | apply pw_below_drewN | apply below_drew1) | exact HB.out)) hb); clear HO_8; clear HB; have HO_8 := n0_; have HO155 := n1_; have HB := n2_; clear n0_ n1_ n2_; clear hb ho137) | ((with_reducible refine gate_builtin (b := .append) (xs := #[.tmp 38, .tmp 39]) rfl ?_); at_builtin; refine Kd.R_append_rows k28 (w0 := w) w.heap.size rfl (.tmp 38) (.tmp 39) 24 28 (.agg #[(.int .i64 0), (.int .i64 0), (.int .i64 0), (.int .i64 0), (.int .i64 0)]) 40 rfl Try.underlying24 info28 rfl (by decide) (by omega) v154 y153 x8_5 _ _ _ (fun k_ => some k_ ≠ (.slice Ao135 x8_5.length co135 : Value).ownBlock) (fun _ => False) rfl rfl ?aO ?aR (fun _ _ h => h) (fun _ h => h.elim) ?aF ?aB ?aS ?aL ?_; (case aR => repeat (first | exact (Kd.R_reads' HO_8.out).2.2 | (with_reducible refine Kd.C_alloc ?_ _) | (with_reducible refine Kd.C_drewN ?_ _) | (with_reducible refine Kd.C_drew ?_))); (case aB => exact (by repeat (first | (with_reducible first | exact HB.out | apply below_alloc | apply pw_below_drewN | apply below_drew1) | exact HB.out))); (case aF => exact (fun k_ hk => Kd.fresh' (Kd.R_lt (by (with_reducible repeat (first | apply Kd.R_alloc | apply Kd.R_drewN | apply Kd.R_drew)); exact HO_8.out)) k_ hk)); (case aO => exact (by (with_reducible repeat (first | apply Kd.R_alloc | apply Kd.R_drewN | apply Kd.R_drew)); exact Kd.R_mono HO155.out (fun _ hk => hk.2))); (case aS => exact (below_size (by repeat (first | (with_reducible first | exact HB.out | apply below_alloc | apply pw_below_drewN | apply below_drew1) | exact HB.out)))); (case aL => have := LMc21.out; omega); intro v157 w138 ho hb hg hat; rw [← Ny156.out] at ho; have n0_ := Aside0.mk (Kd.R_after (ok := (fun _ => True)) (by (with_reducible repeat (first | apply Kd.R_alloc | apply Kd.R_drewN | apply Kd.R_drew)); exact HO_8.out) hg hat); have n1_ := Aside0.mk (hb); have n2_ := Aside0.mk (ho); clear HO_8; clear HB; clear HO155; have HO_8 := n0_; have HB := n1_; have HO158 := n2_; clear n0_ n1_ n2_; clear ho hb hg hat; obtain ⟨Ao139, co139, eo139⟩ := Kd.R_slice HO158.out; subst eo139; have p182 : 0 ≤ ((ji129) : Int) := of_decide_eq_true (by first | (with_reducible assumption) | assumption); have q182 : (ji129) < (y156.length : Int) := of_decide_eq_true (by first | (with_reducible assumption) | assumption); obtain ⟨ad182, e182, hx182_0, hx182_1, hx182_2, hx182_3, hx182_4⟩ := at_T28 (Kd.R_reads' HO158.out).2.2 (ji129) p182 q182; cases e182; replace p182 := eq_true p182; replace q182 := eq_true q182; have p132 : 0 ≤ ((ji129) : Int) := of_decide_eq_true (by first | (with_reducible assumption) | assumption); have q132 : ((ji129) : Int) < ((y156.length : Int) : Int) := of_decide_eq_true (by first | (with_reducible assumption) | assumption); obtain ⟨go132, co132, eo132, gb132, gl132, cl132, HG132⟩ := Kd.R_form HO158.out (by omega); (first | cases eo132 | (injection eo132 with ea_ en_ ec_; (first | subst ea_ | (injection ea_ with ea_; subst ea_)); subst ec_; clear en_)); have GB132 := Aside0.mk gb132; have GG132 := Aside0.mk HG132; clear gb132 gl132 HG132; (first | simp only [add_plain] at hx182_0 | skip); (first | simp only [add_plain] at hx182_1 | skip); (first | simp only [add_plain] at hx182_2 | skip); (first | simp only [add_plain] at hx182_3 | skip); (first | simp only [add_plain] at hx182_4 | skip); obtain ⟨ce132, hcl132, hM132, hcc132, hfr132⟩ := Kd.R_elem HO158.out z28 ((ji129) : Int) p132 q132; obtain rfl := k28_openM hM132; have hx132_0 : w138.cell? ⟨go132, ((ji129) : Int).toNat * 5, none⟩ = some (.int .i64 ((rd_T28 y156 (ji129)).f0)) := hcc132 0 _ rfl; have hx132_1 : w138.cell? ⟨go132, ((ji129) : Int).toNat * 5 + 1, none⟩ = some (.int .i64 ((rd_T28 y156 (ji129)).f1)) := hcc132 1 _ rfl; have hx132_2 : w138.cell? ⟨go132, ((ji129) : Int).toNat * 5 + 2, none⟩ = some (.int .i64 ((rd_T28 y156 (ji129)).f2)) := hcc132 2 _ rfl; have hx132_3 : w138.cell? ⟨go132, ((ji129) : Int).toNat * 5 + 3, none⟩ = some (.int .i64 ((rd_T28 y156 (ji129)).f3)) := hcc132 3 _ rfl; have hx132_4 : w138.cell? ⟨go132, ((ji129) : Int).toNat * 5 + 4, none⟩ = some (.int .i64 ((rd_T28 y156 (ji129)).f4)) := hcc132 4 _ rfl; have hf132_0 : w138.frozen? ⟨go132, ((ji129) : Int).toNat * 5, none⟩ = false := hfr132 0; have hf132_1 : w138.frozen? ⟨go132, ((ji129) : Int).toNat * 5 + 1, none⟩ = false := hfr132 1; have hf132_2 : w138.frozen? ⟨go132, ((ji129) : Int).toNat * 5 + 2, none⟩ = false := hfr132 2; have hf132_3 : w138.frozen? ⟨go132, ((ji129) : Int).toNat * 5 + 3, none⟩ = false := hfr132 3; have hf132_4 : w138.frozen? ⟨go132, ((ji129) : Int).toNat * 5 + 4, none⟩ = false := hfr132 4; clear hcl132 hcc132 hfr132 hM132; replace p132 := eq_true p132; replace q132 := eq_true q132; have HX140 := Aside0.mk (show Kd.R k28 28 w138 w.heap.size (fun k_ => some k_ ≠ (.slice Ao135 x8_5.length co135 : Value).ownBlock) (.slice (some ⟨go132, 0, none⟩) y156.length co139) y156 from (by (with_reducible repeat (first | apply Kd.R_alloc | apply Kd.R_drewN | apply Kd.R_drew)); exact HO158.out)); obtain ⟨ce140, hcl140, hM140, hcc140, hfr140⟩ := Kd.R_elem HX140.out z28 ((ji129) : Int) (of_decide_eq_true (by first | (with_reducible assumption) | assumption)) (by have h_ : ((ji129) : Int) < ((y156.length : Int) : Int) := of_decide_eq_true (by first | (with_reducible assumption) | assumption); first | exact h_ | (have e_ := (Kd.R_reads' HO158.out).1; omega) | simpa using h_); obtain rfl := k28_openM hM140; have HP140 := Kd.R_seg HX140.out ((ji129) : Int) (of_decide_eq_true (by first | (with_reducible assumption) | assumption)) (by have h_ : ((ji129) : Int) < ((y156.length : Int) : Int) := of_decide_eq_true (by first | (with_reducible assumption) | assumption); first | exact h_ | (have e_ := (Kd.R_reads' HO158.out).1; omega) | simpa using h_) (seg := [.int .i64 (wrap64 (2 * ((rd_T28 y156 (ji129)).f3)))]) (j := 3) hcl140 hcc140 (show 4 ≤ 5 from by decide) (x' := (⟨(rd_T28 y156 (ji129)).f0, (rd_T28 y156 (ji129)).f1, (rd_T28 y156 (ji129)).f2, wrap64 (2 * ((rd_T28 y156 (ji129)).f3)), (rd_T28 y156 (ji129)).f4⟩ : S28)) (k28_mkM _ _ _ (⟨(rd_T28 y156 (ji129)).f0, (rd_T28 y156 (ji129)).f1, (rd_T28 y156 (ji129)).f2, wrap64 (2 * ((rd_T28 y156 (ji129)).f3)), (rd_T28 y156 (ji129)).f4⟩ : S28) ) (fun _ hk => hk); have hx140_3 := hcc140 3 _ rfl; (try simp only [show (k28).sz = 5 from rfl, Nat.mul_one, Nat.add_zero] at hx140_3); have hf140_3 := hfr140 3; (try simp only [show (k28).sz = 5 from rfl, Nat.mul_one, Nat.add_zero] at hf140_3); clear hcl140 hcc140 hfr140 hM140) | ((with_reducible refine gate_store (t := 2) (p := 101) rfl ?_); refine store_event (t := 2) (p := 101) (v := ?vo_w141) (w1 := (w138.setCell ⟨go132, ((ji129) : Int).toNat * 5 + 3, none⟩ (.int .i64 (wrap64 (2 * ((rd_T28 y156 (ji129)).f3)))))) ?hg ?ho ?hn ?hr ?_; (case ho => rfl); (case hg => rfl); (case hn => rfl); (case hr => first | (go_simp; done) | (go_simp; rfl)); intro w141 hw; have hg : w138.grownBy w141 (some go132) := (by rw [hw]; exact HP140.2); have hp_ : Kd.R k28 28 w141 w.heap.size (fun k_ => some k_ ≠ (.slice Ao135 x8_5.length co135 : Value).ownBlock) (.slice (some ⟨go132, 0, none⟩) y156.length co139) y183 := (by rw [hw, Ny183.out]; exact HP140.1); clear HP140; have n0_ := Aside0.mk (Kd.R_after (v := (.slice (some ⟨go132, 0, none⟩) y156.length co139)) (v1 := (.slice (some ⟨go132, 0, none⟩) y156.length co139)) (ok := (fun _ => True)) (by (with_reducible repeat (first | apply Kd.R_alloc | apply Kd.R_drewN | apply Kd.R_drew)); exact HO_8.out) hg (.inl rfl)); have n1_ := Aside0.mk (hp_); have n2_ := Aside0.mk ((by rw [hw]; exact below_set (HB.out) GB132.out : Below w.heap.size w w141)); clear HO_8; clear HO158; clear HB; have HO_8 := n0_; have HO158 := n1_; have HB := n2_; clear n0_ n1_ n2_; clear hg hw hp_) | (go_at_call 29; refine calls_of_args (args' := #[.slice (some ⟨go132, 0, none⟩) y183.length co139]) (by first | (rw [show y183.length = y156.length from (Kd.R_reads' HO158.out).1.symm] <;> rfl) | rfl) ?_; (with_reducible refine (qpa_Test.calls kj12 _ _ y183 t184 _ ?side1 ?side2 A134.out).mono ?_); (case side1 => repeat (first | exact (Kd.R_reads' HO158.out).2.2 | (with_reducible refine Kd.C_alloc ?_ _) | (with_reducible refine Kd.C_drewN ?_ _) | (with_reducible refine Kd.C_drew ?_))); (case side2 => rw [show y183.length = y156.length from (Kd.R_reads' HO158.out).1.symm]; exact (Kd.R_reads' HO158.out).2.1); rintro e w142 ⟨rfl, hb⟩; have n0_ := Aside0.mk (Kd.R_below (by (with_reducible repeat (first | apply Kd.R_alloc | apply Kd.R_drewN | apply Kd.R_drew)); exact HO_8.out) hb); have n1_ := Aside0.mk (Kd.R_below (by (with_reducible repeat (first | apply Kd.R_alloc | apply Kd.R_drewN | apply Kd.R_drew)); exact HO158.out) hb); have n2_ := Aside0.mk (below_step (by repeat (first | (with_reducible first | exact HB.out | apply below_alloc | apply pw_below_drewN | apply below_drew1) | exact HB.out)) hb); clear HO_8; clear HO158; clear HB; have HO_8 := n0_; have HO158 := n1_; have HB := n2_; clear n0_ n1_ n2_; (try clear hb); (try clear hb2); (try clear hk); (try clear hi)))
                              go_ret
                              exact ⟨by first | rfl | (simp [errW_none, errW_some] <;> rfl) | (simp only [← hji129]; first | rfl | (simp [errW_none, errW_some] <;> rfl)) | (simp [*, errW_none, errW_some] <;> rfl), by repeat (first | (with_reducible first | exact HB.out | apply below_alloc | apply pw_below_drewN | apply below_drew1) | exact HB.out)⟩
                            · replace c133 := Bool.eq_false_iff.mpr c133
                              subst c133
                              have H1 : (some false) = some r := by rw [if_neg (show ¬ (false = true) by decide)] at H; exact H
                              clear H
                              have H := H1
                              clear H1
                              obtain rfl := Option.some.inj H
                              obtain ⟨Ao143, co143, eo143⟩ := Kd.R_slice HO_8.out
                              subst eo143
                              go_wp2_with (first | ((with_reducible refine gate_dst (N := 38) rfl ?_); refine Kd.R_lit k28 _ 28 ?hg (N := 38) ?hd (xs := ([] : List (S28))) (inner := []) (ok := fun _ => True) (okp := fun _ => True) ?hr ?hp (fun _ hk => hk) trivial (Below.refl _ _) (Nat.le_refl _) (by simp) ?_; (case hd => rfl); (case hg => rfl); (case hr => first | (go_simp; done) | (go_simp; rfl)); (case hp => exact (Reps.none _ _)); intro v154 w144 ho145 hb hg_ hnew_; clear hg_ hnew_; (first | rw [← Ny153.out] at ho145 | (simp only [Int.reduceToNat] at ho145; rw [← Ny153.out] at ho145)); have n0_ := Aside0.mk (Kd.R_elder' (by (with_reducible repeat (first | apply Kd.R_alloc | apply Kd.R_drewN | apply Kd.R_drew)); exact HO_8.out) (Kd.R_base ho145) hb); have n1_ := Aside0.mk (Kd.R_lower (Kd.R_new' ho145 (Kd.R_lt (by (with_reducible repeat (first | apply Kd.R_alloc | apply Kd.R_drewN | apply Kd.R_drew)); exact HO_8.out))) (below_size (by repeat (first | (with_reducible first | exact HB.out | apply below_alloc | apply pw_below_drewN | apply below_drew1) | exact HB.out)))); have n2_ := Aside0.mk (below_step (by repeat (first | (with_reducible first | exact HB.out | apply below_alloc | apply pw_below_drewN | apply below_drew1) | exact HB.out)) hb); clear HO_8; clear HB; have HO_8 := n0_; have HO155 := n1_; have HB := n2_; clear n0_ n1_ n2_; clear hb ho145) | ((with_reducible refine gate_builtin (b := .append) (xs := #[.tmp 38, .tmp 39]) rfl ?_); at_builtin; refine Kd.R_append_rows k28 (w0 := w) w.heap.size rfl (.tmp 38) (.tmp 39) 24 28 (.agg #[(.int .i64 0), (.int .i64 0), (.int .i64 0), (.int .i64 0), (.int .i64 0)]) 40 rfl Try.underlying24 info28 rfl (by decide) (by omega) v154 y153 x8_5 _ _ _ (fun k_ => some k_ ≠ (.slice Ao143 x8_5.length co143 : Value).ownBlock) (fun _ => False) rfl rfl ?aO ?aR (fun _ _ h => h) (fun _ h => h.elim) ?aF ?aB ?aS ?aL ?_; (case aR => repeat (first | exact (Kd.R_reads' HO_8.out).2.2 | (with_reducible refine Kd.C_alloc ?_ _) | (with_reducible refine Kd.C_drewN ?_ _) | (with_reducible refine Kd.C_drew ?_))); (case aB => exact (by repeat (first | (with_reducible first | exact HB.out | apply below_alloc | apply pw_below_drewN | apply below_drew1) | exact HB.out))); (case aF => exact (fun k_ hk => Kd.fresh' (Kd.R_lt (by (with_reducible repeat (first | apply Kd.R_alloc | apply Kd.R_drewN | apply Kd.R_drew)); exact HO_8.out)) k_ hk)); (case aO => exact (by (with_reducible repeat (first | apply Kd.R_alloc | apply Kd.R_drewN | apply Kd.R_drew)); exact Kd.R_mono HO155.out (fun _ hk => hk.2))); (case aS => exact (below_size (by repeat (first | (with_reducible first | exact HB.out | apply below_alloc | apply pw_below_drewN | apply below_drew1) | exact HB.out)))); (case aL => have := LMc21.out; omega); intro v157 w146 ho hb hg hat; rw [← Ny156.out] at ho; have n0_ := Aside0.mk (Kd.R_after (ok := (fun _ => True)) (by (with_reducible repeat (first | apply Kd.R_alloc | apply Kd.R_drewN | apply Kd.R_drew)); exact HO_8.out) hg hat); have n1_ := Aside0.mk (hb); have n2_ := Aside0.mk (ho); clear HO_8; clear HB; clear HO155; have HO_8 := n0_; have HB := n1_; have HO158 := n2_; clear n0_ n1_ n2_; clear ho hb hg hat; obtain ⟨Ao147, co147, eo147⟩ := Kd.R_slice HO158.out; subst eo147; have p182 : 0 ≤ ((ji129) : Int) := of_decide_eq_true (by first | (with_reducible assumption) | assumption); have q182 : (ji129) < (y156.length : Int) := of_decide_eq_true (by first | (with_reducible assumption) | assumption); obtain ⟨ad182, e182, hx182_0, hx182_1, hx182_2, hx182_3, hx182_4⟩ := at_T28 (Kd.R_reads' HO158.out).2.2 (ji129) p182 q182; cases e182; replace p182 := eq_true p182; replace q182 := eq_true q182; have p132 : 0 ≤ ((ji129) : Int) := of_decide_eq_true (by first | (with_reducible assumption) | assumption); have q132 : ((ji129) : Int) < ((y156.length : Int) : Int) := of_decide_eq_true (by first | (with_reducible assumption) | assumption); obtain ⟨go132, co132, eo132, gb132, gl132, cl132, HG132⟩ := Kd.R_form HO158.out (by omega); (first | cases eo132 | (injection eo132 with ea_ en_ ec_; (first | subst ea_ | (injection ea_ with ea_; subst ea_)); subst ec_; clear en_)); have GB132 := Aside0.mk gb132; have GG132 := Aside0.mk HG132; clear gb132 gl132 HG132; (first | simp only [add_plain] at hx182_0 | skip); (first | simp only [add_plain] at hx182_1 | skip); (first | simp only [add_plain] at hx182_2 | skip); (first | simp only [add_plain] at hx182_3 | skip); (first | simp only [add_plain] at hx182_4 | skip); obtain ⟨ce132, hcl132, hM132, hcc132, hfr132⟩ := Kd.R_elem HO158.out z28 ((ji129) : Int) p132 q132; obtain rfl := k28_openM hM132; have hx132_0 : w146.cell? ⟨go132, ((ji129) : Int).toNat * 5, none⟩ = some (.int .i64 ((rd_T28 y156 (ji129)).f0)) := hcc132 0 _ rfl; have hx132_1 : w146.cell? ⟨go132, ((ji129) : Int).toNat * 5 + 1, none⟩ = some (.int .i64 ((rd_T28 y156 (ji129)).f1)) := hcc132 1 _ rfl; have hx132_2 : w146.cell? ⟨go132, ((ji129) : Int).toNat * 5 + 2, none⟩ = some (.int .i64 ((rd_T28 y156 (ji129)).f2)) := hcc132 2 _ rfl; have hx132_3 : w146.cell? ⟨go132, ((ji129) : Int).toNat * 5 + 3, none⟩ = some (.int .i64 ((rd_T28 y156 (ji129)).f3)) := hcc132 3 _ rfl; have hx132_4 : w146.cell? ⟨go132, ((ji129) : Int).toNat * 5 + 4, none⟩ = some (.int .i64 ((rd_T28 y156 (ji129)).f4)) := hcc132 4 _ rfl; have hf132_0 : w146.frozen? ⟨go132, ((ji129) : Int).toNat * 5, none⟩ = false := hfr132 0; have hf132_1 : w146.frozen? ⟨go132, ((ji129) : Int).toNat * 5 + 1, none⟩ = false := hfr132 1; have hf132_2 : w146.frozen? ⟨go132, ((ji129) : Int).toNat * 5 + 2, none⟩ = false := hfr132 2; have hf132_3 : w146.frozen? ⟨go132, ((ji129) : Int).toNat * 5 + 3, none⟩ = false := hfr132 3; have hf132_4 : w146.frozen? ⟨go132, ((ji129) : Int).toNat * 5 + 4, none⟩ = false := hfr132 4; clear hcl132 hcc132 hfr132 hM132; replace p132 := eq_true p132; replace q132 := eq_true q132; have HX148 := Aside0.mk (show Kd.R k28 28 w146 w.heap.size (fun k_ => some k_ ≠ (.slice Ao143 x8_5.length co143 : Value).ownBlock) (.slice (some ⟨go132, 0, none⟩) y156.length co147) y156 from (by (with_reducible repeat (first | apply Kd.R_alloc | apply Kd.R_drewN | apply Kd.R_drew)); exact HO158.out)); obtain ⟨ce148, hcl148, hM148, hcc148, hfr148⟩ := Kd.R_elem HX148.out z28 ((ji129) : Int) (of_decide_eq_true (by first | (with_reducible assumption) | assumption)) (by have h_ : ((ji129) : Int) < ((y156.length : Int) : Int) := of_decide_eq_true (by first | (with_reducible assumption) | assumption); first | exact h_ | (have e_ := (Kd.R_reads' HO158.out).1; omega) | simpa using h_); obtain rfl := k28_openM hM148; have HP148 := Kd.R_seg HX148.out ((ji129) : Int) (of_decide_eq_true (by first | (with_reducible assumption) | assumption)) (by have h_ : ((ji129) : Int) < ((y156.length : Int) : Int) := of_decide_eq_true (by first | (with_reducible assumption) | assumption); first | exact h_ | (have e_ := (Kd.R_reads' HO158.out).1; omega) | simpa using h_) (seg := [.int .i64 (wrap64 (2 * ((rd_T28 y156 (ji129)).f3)))]) (j := 3) hcl148 hcc148 (show 4 ≤ 5 from by decide) (x' := (⟨(rd_T28 y156 (ji129)).f0, (rd_T28 y156 (ji129)).f1, (rd_T28 y156 (ji129)).f2, wrap64 (2 * ((rd_T28 y156 (ji129)).f3)), (rd_T28 y156 (ji129)).f4⟩ : S28)) (k28_mkM _ _ _ (⟨(rd_T28 y156 (ji129)).f0, (rd_T28 y156 (ji129)).f1, (rd_T28 y156 (ji129)).f2, wrap64 (2 * ((rd_T28 y156 (ji129)).f3)), (rd_T28 y156 (ji129)).f4⟩ : S28) ) (fun _ hk => hk); have hx148_3 := hcc148 3 _ rfl; (try simp only [show (k28).sz = 5 from rfl, Nat.mul_one, Nat.add_zero] at hx148_3); have hf148_3 := hfr148 3; (try simp only [show (k28).sz = 5 from rfl, Nat.mul_one, Nat.add_zero] at hf148_3); clear hcl148 hcc148 hfr148 hM148) | ((with_reducible refine gate_store (t := 2) (p := 101) rfl ?_); refine store_event (t := 2) (p := 101) (v := ?vo_w149) (w1 := (w146.setCell ⟨go132, ((ji129) : Int).toNat * 5 + 3, none⟩ (.int .i64 (wrap64 (2 * ((rd_T28 y156 (ji129)).f3)))))) ?hg ?ho ?hn ?hr ?_; (case ho => rfl); (case hg => rfl); (case hn => rfl); (case hr => first | (go_simp; done) | (go_simp; rfl)); intro w149 hw; have hg : w146.grownBy w149 (some go132) := (by rw [hw]; exact HP148.2); have hp_ : Kd.R k28 28 w149 w.heap.size (fun k_ => some k_ ≠ (.slice Ao143 x8_5.length co143 : Value).ownBlock) (.slice (some ⟨go132, 0, none⟩) y156.length co147) y183 := (by rw [hw, Ny183.out]; exact HP148.1); clear HP148; have n0_ := Aside0.mk (Kd.R_after (v := (.slice (some ⟨go132, 0, none⟩) y156.length co147)) (v1 := (.slice (some ⟨go132, 0, none⟩) y156.length co147)) (ok := (fun _ => True)) (by (with_reducible repeat (first | apply Kd.R_alloc | apply Kd.R_drewN | apply Kd.R_drew)); exact HO_8.out) hg (.inl rfl)); have n1_ := Aside0.mk (hp_); have n2_ := Aside0.mk ((by rw [hw]; exact below_set (HB.out) GB132.out : Below w.heap.size w w149)); clear HO_8; clear HO158; clear HB; have HO_8 := n0_; have HO158 := n1_; have HB := n2_; clear n0_ n1_ n2_; clear hg hw hp_))
                              go_ret
                              exact ⟨by first | rfl | (simp [errW_none, errW_some] <;> rfl) | (simp only [← hji129]; first | rfl | (simp [errW_none, errW_some] <;> rfl)) | (simp [*, errW_none, errW_some] <;> rfl), by repeat (first | (with_reducible first | exact HB.out | apply below_alloc | apply pw_below_drewN | apply below_drew1) | exact HB.out)⟩
                          · rw [if_neg c131] at H
                            exact absurd H (by simp)
                        · rw [if_neg c130] at H
                          exact absurd H (by simp)
                      · rw [if_neg c128] at H
                        have c128b0 : ((Go.bits .and .i64 a2 3) == 3) = false := beq_eq_false_iff_ne.mpr c128
                        have c128b1 : ((Go.bits .and .i64 a2 3) != 3) = true := bne_iff_ne.mpr c128
                        by_cases c150 : t145 = true
                        · subst c150
                          have H1 : ((qpa_Test.f kj12 y156).bind fun t185 => (some (t185 == 0))) = some r := by rw [if_pos rfl] at H; exact H
                          clear H
                          have H := H1
                          clear H1
                          replace H := Option.bind_eq_some_iff.mp H
                          obtain ⟨t185, A1510, H⟩ := H
                          replace H : (some (t185 == 0)) = some r := H
                          have A151 := Aside0.mk A1510
                          clear A1510
                          obtain rfl := Option.some.inj H
                          obtain ⟨Ao152, co152, eo152⟩ := Kd.R_slice HO_8.out
                          subst eo152
                          go_wp2_with (first | ((with_reducible refine gate_dst (N := 38) rfl ?_); refine Kd.R_lit k28 _ 28 ?hg (N := 38) ?hd (xs := ([] : List (S28))) (inner := []) (ok := fun _ => True) (okp := fun _ => True) ?hr ?hp (fun _ hk => hk) trivial (Below.refl _ _) (Nat.le_refl _) (by simp) ?_; (case hd => rfl); (case hg => rfl); (case hr => first | (go_simp; done) | (go_simp; rfl)); (case hp => exact (Reps.none _ _)); intro v154 w153 ho154 hb hg_ hnew_; clear hg_ hnew_; (first | rw [← Ny153.out] at ho154 | (simp only [Int.reduceToNat] at ho154; rw [← Ny153.out] at ho154)); have n0_ := Aside0.mk (Kd.R_elder' (by (with_reducible repeat (first | apply Kd.R_alloc | apply Kd.R_drewN | apply Kd.R_drew)); exact HO_8.out) (Kd.R_base ho154) hb); have n1_ := Aside0.mk (Kd.R_lower (Kd.R_new' ho154 (Kd.R_lt (by (with_reducible repeat (first | apply Kd.R_alloc | apply Kd.R_drewN | apply Kd.R_drew)); exact HO_8.out))) (below_size (by repeat (first | (with_reducible first | exact HB.out | apply below_alloc | apply pw_below_drewN | apply below_drew1) | exact HB.out)))); have n2_ := Aside0.mk (below_step (by repeat (first | (with_reducible first | exact HB.out | apply below_alloc | apply pw_below_drewN | apply below_drew1) | exact HB.out)) hb); clear HO_8; clear HB; have HO_8 := n0_; have HO155 := n1_; have HB := n2_; clear n0_ n1_ n2_; clear hb ho154) | ((with_reducible refine gate_builtin (b := .append) (xs := #[.tmp 38, .tmp 39]) rfl ?_); at_builtin; refine Kd.R_append_rows k28 (w0 := w) w.heap.size rfl (.tmp 38) (.tmp 39) 24 28 (.agg #[(.int .i64 0), (.int .i64 0), (.int .i64 0), (.int .i64 0), (.int .i64 0)]) 40 rfl Try.underlying24 info28 rfl (by decide) (by omega) v154 y153 x8_5 _ _ _ (fun k_ => some k_ ≠ (.slice Ao152 x8_5.length co152 : Value).ownBlock) (fun _ => False) rfl rfl ?aO ?aR (fun _ _ h => h) (fun _ h => h.elim) ?aF ?aB ?aS ?aL ?_; (case aR => repeat (first | exact (Kd.R_reads' HO_8.out).2.2 | (with_reducible refine Kd.C_alloc ?_ _) | (with_reducible refine Kd.C_drewN ?_ _) | (with_reducible refine Kd.C_drew ?_))); (case aB => exact (by repeat (first | (with_reducible first | exact HB.out | apply below_alloc | apply pw_below_drewN | apply below_drew1) | exact HB.out))); (case aF => exact (fun k_ hk => Kd.fresh' (Kd.R_lt (by (with_reducible repeat (first | apply Kd.R_alloc | apply Kd.R_drewN | apply Kd.R_drew)); exact HO_8.out)) k_ hk)); (case aO => exact (by (with_reducible repeat (first | apply Kd.R_alloc | apply Kd.R_drewN | apply Kd.R_drew)); exact Kd.R_mono HO155.out (fun _ hk => hk.2))); (case aS => exact (below_size (by repeat (first | (with_reducible first | exact HB.out | apply below_alloc | apply pw_below_drewN | apply below_drew1) | exact HB.out)))); (case aL => have := LMc21.out; omega); intro v157 w155 ho hb hg hat; rw [← Ny156.out] at ho; have n0_ := Aside0.mk (Kd.R_after (ok := (fun _ => True)) (by (with_reducible repeat (first | apply Kd.R_alloc | apply Kd.R_drewN | apply Kd.R_drew)); exact HO_8.out) hg hat); have n1_ := Aside0.mk (hb); have n2_ := Aside0.mk (ho); clear HO_8; clear HB; clear HO155; have HO_8 := n0_; have HB := n1_; have HO158 := n2_; clear n0_ n1_ n2_; clear ho hb hg hat; obtain ⟨Ao156, co156, eo156⟩ := Kd.R_slice HO158.out; subst eo156) | (go_at_call 29; (with_reducible refine (qpa_Test.calls kj12 _ _ y156 t185 _ ?side1 ?side2 A151.out).mono ?_); (case side1 => repeat (first | exact (Kd.R_reads' HO158.out).2.2 | (with_reducible refine Kd.C_alloc ?_ _) | (with_reducible refine Kd.C_drewN ?_ _) | (with_reducible refine Kd.C_drew ?_))); (case side2 => exact (Kd.R_reads' HO158.out).2.1); rintro e w157 ⟨rfl, hb⟩; have n0_ := Aside0.mk (Kd.R_below (by (with_reducible repeat (first | apply Kd.R_alloc | apply Kd.R_drewN | apply Kd.R_drew)); exact HO_8.out) hb); have n1_ := Aside0.mk (Kd.R_below (by (with_reducible repeat (first | apply Kd.R_alloc | apply Kd.R_drewN | apply Kd.R_drew)); exact HO158.out) hb); have n2_ := Aside0.mk (below_step (by repeat (first | (with_reducible first | exact HB.out | apply below_alloc | apply pw_below_drewN | apply below_drew1) | exact HB.out)) hb); clear HO_8; clear HO158; clear HB; have HO_8 := n0_; have HO158 := n1_; have HB := n2_; clear n0_ n1_ n2_; (try clear hb); (try clear hb2); (try clear hk); (try clear hi)))
                          go_ret
                          exact ⟨by first | rfl | (simp [errW_none, errW_some] <;> rfl) | (simp [*, errW_none, errW_some] <;> rfl), by repeat (first | (with_reducible first | exact HB.out | apply below_alloc | apply pw_below_drewN | apply below_drew1) | exact HB.out)⟩
                        · replace c150 := Bool.eq_false_iff.mpr c150
                          subst c150
                          have H1 : (some false) = some r := by rw [if_neg (show ¬ (false = true) by decide)] at H; exact H
                          clear H
                          have H := H1
                          clear H1
                          obtain rfl := Option.some.inj H
                          obtain ⟨Ao158, co158, eo158⟩ := Kd.R_slice HO_8.out
                          subst eo158
                          go_wp2_with (first | ((with_reducible refine gate_dst (N := 38) rfl ?_); refine Kd.R_lit k28 _ 28 ?hg (N := 38) ?hd (xs := ([] : List (S28))) (inner := []) (ok := fun _ => True) (okp := fun _ => True) ?hr ?hp (fun _ hk => hk) trivial (Below.refl _ _) (Nat.le_refl _) (by simp) ?_; (case hd => rfl); (case hg => rfl); (case hr => first | (go_simp; done) | (go_simp; rfl)); (case hp => exact (Reps.none _ _)); intro v154 w159 ho160 hb hg_ hnew_; clear hg_ hnew_; (first | rw [← Ny153.out] at ho160 | (simp only [Int.reduceToNat] at ho160; rw [← Ny153.out] at ho160)); have n0_ := Aside0.mk (Kd.R_elder' (by (with_reducible repeat (first | apply Kd.R_alloc | apply Kd.R_drewN | apply Kd.R_drew)); exact HO_8.out) (Kd.R_base ho160) hb); have n1_ := Aside0.mk (Kd.R_lower (Kd.R_new' ho160 (Kd.R_lt (by (with_reducible repeat (first | apply Kd.R_alloc | apply Kd.R_drewN | apply Kd.R_drew)); exact HO_8.out))) (below_size (by repeat (first | (with_reducible first | exact HB.out | apply below_alloc | apply pw_below_drewN | apply below_drew1) | exact HB.out)))); have n2_ := Aside0.mk (below_step (by repeat (first | (with_reducible first | exact HB.out | apply below_alloc | apply pw_below_drewN | apply below_drew1) | exact HB.out)) hb); clear HO_8; clear HB; have HO_8 := n0_; have HO155 := n1_; have HB := n2_; clear n0_ n1_ n2_; clear hb ho160) | ((with_reducible refine gate_builtin (b := .append) (xs := #[.tmp 38, .tmp 39]) rfl ?_); at_builtin; refine Kd.R_append_rows k28 (w0 := w) w.heap.size rfl (.tmp 38) (.tmp 39) 24 28 (.agg #[(.int .i64 0), (.int .i64 0), (.int .i64 0), (.int .i64 0), (.int .i64 0)]) 40 rfl Try.underlying24 info28 rfl (by decide) (by omega) v154 y153 x8_5 _ _ _ (fun k_ => some k_ ≠ (.slice Ao158 x8_5.length co158 : Value).ownBlock) (fun _ => False) rfl rfl ?aO ?aR (fun _ _ h => h) (fun _ h => h.elim) ?aF ?aB ?aS ?aL ?_; (case aR => repeat (first | exact (Kd.R_reads' HO_8.out).2.2 | (with_reducible refine Kd.C_alloc ?_ _) | (with_reducible refine Kd.C_drewN ?_ _) | (with_reducible refine Kd.C_drew ?_))); (case aB => exact (by repeat (first | (with_reducible first | exact HB.out | apply below_alloc | apply pw_below_drewN | apply below_drew1) | exact HB.out))); (case aF => exact (fun k_ hk => Kd.fresh' (Kd.R_lt (by (with_reducible repeat (first | apply Kd.R_alloc | apply Kd.R_drewN | apply Kd.R_drew)); exact HO_8.out)) k_ hk)); (case aO => exact (by (with_reducible repeat (first | apply Kd.R_alloc | apply Kd.R_drewN | apply Kd.R_drew)); exact Kd.R_mono HO155.out (fun _ hk => hk.2))); (case aS => exact (below_size (by repeat (first | (with_reducible first | exact HB.out | apply below_alloc | apply pw_below_drewN | apply below_drew1) | exact HB.out)))); (case aL => have := LMc21.out; omega); intro v157 w161 ho hb hg hat; rw [← Ny156.out] at ho; have n0_ := Aside0.mk (Kd.R_after (ok := (fun _ => True)) (by (with_reducible repeat (first | apply Kd.R_alloc | apply Kd.R_drewN | apply Kd.R_drew)); exact HO_8.out) hg hat); have n1_ := Aside0.mk (hb); have n2_ := Aside0.mk (ho); clear HO_8; clear HB; clear HO155; have HO_8 := n0_; have HB := n1_; have HO158 := n2_; clear n0_ n1_ n2_; clear ho hb hg hat))
                          go_ret
                          exact ⟨by first | rfl | (simp [errW_none, errW_some] <;> rfl) | (simp [*, errW_none, errW_some] <;> rfl), by repeat (first | (with_reducible first | exact HB.out | apply below_alloc | apply pw_below_drewN | apply below_drew1) | exact HB.out)⟩
              · rw [if_neg c21] at H
                exact absurd H (by simp)

end Go.Proofs.Ythiepacmdlgajaa.PQpaLess
