-- Made by px.py (a program of this session, over the kit's printer) out of the translation. Not trusted: Lean checks it.
import Derived.Test.YtmgmpifbhjoijaaPParamHeavierx0
import Derived.Test.YtmgmpifbhjoijaaPParamHeavierx1
import Derived.Test.YtmgmpifbhjoijaaPParamHeavierx2
namespace Go.Proofs.Ytmgmpifbhjoijaa.PParamHeavier
open Go.RowKit Go.Proofs.YtmgmpifbhjoijaaW.PrintWords Go.Proofs.YtmgmpifbhjoijaaW.PrintLast Go.Proofs.YtmgmpifbhjoijaaW.PrintMore
attribute [local go_sem] max2_int min2_int max_two min_two max_three min_three max_four min_four   -- for this text's walks alone
set_option linter.unusedVariables false
set_option linter.unusedSimpArgs false

/-! ### horariumlaw09_awake: function 11 -/
def horariumlaw09_awake.f (k : Nat)  : Option (Bool) := (param_Load.f k (([(⟨1, 1, 4, 4, 1⟩ : S28), (⟨2, 1, 6, 6, 1⟩ : S28)] : List (S28)))).bind fun bt139 => (if bt139.1 = 5 then (if bt139.2.1 = 12 then (some (bt139.2.2 == 0)) else (some false)) else (some false))
theorem horariumlaw09_awake.mono : ∀ k, LeO (horariumlaw09_awake.f k ) (horariumlaw09_awake.f (k + 1) ) := by
  intro  k
  unfold horariumlaw09_awake.f
  repeat' first
      | (with_reducible exact param_Load.mono _ _)
      | (with_reducible exact LeO.refl _)
      | (with_reducible exact LeO.none _)
      | (with_reducible refine LeO.ite ?_ ?_)
      | (with_reducible refine LeO.bind ?_ (fun _ => ?_))
      | exact param_Load.mono _ _
      | exact LeO.none _
      | refine LeO.ite ?_ ?_
      | refine LeO.bind ?_ (fun _ => ?_)
set_option maxHeartbeats 8000000 in
set_option maxRecDepth 100000 in
theorem horariumlaw09_awake.calls (k : Nat)  (r : Bool) (w : World) (h : horariumlaw09_awake.f k  = some r) :
    Calls Try.prog 11 #[] w fun e w' => e = .returned (.bool r) ∧ Below w.heap.size w w' := by
  have hu28 := Try.underlying28
  have HB := Aside0.mk (Below.refl w.heap.size w)
  have H : ((param_Load.f k (([(⟨1, 1, 4, 4, 1⟩ : S28), (⟨2, 1, 6, 6, 1⟩ : S28)] : List (S28)))).bind fun bt139 => (if bt139.1 = 5 then (if bt139.2.1 = 12 then (some (bt139.2.2 == 0)) else (some false)) else (some false))) = some r := h
  clear h
  obtain ⟨y136, hy136⟩ : ∃ y_ : List (S28), y_ = (([(⟨1, 1, 4, 4, 1⟩ : S28), (⟨2, 1, 6, 6, 1⟩ : S28)] : List (S28))) := ⟨_, rfl⟩
  replace H : ((param_Load.f k y136).bind fun bt139 => (if bt139.1 = 5 then (if bt139.2.1 = 12 then (some (bt139.2.2 == 0)) else (some false)) else (some false))) = some r := by first | (rw [hy136]; with_reducible exact H) | (have H2_ := (Option.bind_some _ _).symm.trans H; rw [hy136]; with_reducible exact H2_) | (have H2_ := (Option.bind_some _ _).symm.trans H; with_reducible exact H2_) | with_reducible exact H | (rw [hy136]; exact H) | exact H
  have Ny136 := Aside0.mk hy136
  clear hy136
  replace H := Option.bind_eq_some_iff.mp H
  obtain ⟨⟨t139, t140, t141⟩, A10, H⟩ := H
  replace H : (if t139 = 5 then (if t140 = 12 then (some (t141 == 0)) else (some false)) else (some false)) = some r := H
  have A1 := Aside0.mk A10
  clear A10
  by_cases c2 : t139 = 5
  · rw [if_pos c2] at H
    have c2b0 : (t139 == 5) = true := beq_iff_eq.mpr c2
    have c2b1 : (t139 != 5) = false := bne_eq_false_iff_eq.mpr c2
    clear c2
    by_cases c3 : t140 = 12
    · rw [if_pos c3] at H
      have c3b0 : (t140 == 12) = true := beq_iff_eq.mpr c3
      have c3b1 : (t140 != 12) = false := bne_eq_false_iff_eq.mpr c3
      clear c3
      obtain rfl := Option.some.inj H
      go_enter Try.func11, Try.ntmps11
      go_wp2_with (first | ((with_reducible refine gate_dst (N := 7) rfl ?_); refine Kd.R_lit k28 _ 28 ?hg (N := 7) ?hd (xs := ([(⟨1, 1, 4, 4, 1⟩ : S28), (⟨2, 1, 6, 6, 1⟩ : S28)] : List (S28))) (inner := [.int .i64 1, .int .i64 1, .int .i64 4, .int .i64 4, .int .i64 1, .int .i64 2, .int .i64 1, .int .i64 6, .int .i64 6, .int .i64 1]) (ok := fun _ => True) (okp := fun _ => True) ?hr ?hp (fun _ hk => hk) trivial (Below.refl _ _) (Nat.le_refl _) (by simp) ?_; (case hd => rfl); (case hg => rfl); (case hr => first | (go_simp; done) | (go_simp; rfl)); (case hp => exact (Reps.c5 (show Kd.M k28 _ _ _ (⟨1, 1, 4, 4, 1⟩ : S28) [.int .i64 1, .int .i64 1, .int .i64 4, .int .i64 4, .int .i64 1] from (k28_mkM _ _ _ (⟨1, 1, 4, 4, 1⟩ : S28) )) (Reps.c5 (show Kd.M k28 _ _ _ (⟨2, 1, 6, 6, 1⟩ : S28) [.int .i64 2, .int .i64 1, .int .i64 6, .int .i64 6, .int .i64 1] from (k28_mkM _ _ _ (⟨2, 1, 6, 6, 1⟩ : S28) )) (Reps.none _ _)))); intro v137 w4 ho5 hb hg_ hnew_; clear hg_ hnew_; (first | rw [← Ny136.out] at ho5 | (simp only [Int.reduceToNat] at ho5; rw [← Ny136.out] at ho5)); have n0_ := Aside0.mk (Kd.R_lower ho5 (below_size (by repeat (first | (with_reducible first | exact HB.out | apply below_alloc | apply pw_below_drewN | apply below_drew1) | exact HB.out)))); have n1_ := Aside0.mk (below_step (by repeat (first | (with_reducible first | exact HB.out | apply below_alloc | apply pw_below_drewN | apply below_drew1) | exact HB.out)) hb); clear HB; have HO138 := n0_; have HB := n1_; clear n0_ n1_; clear hb ho5; obtain ⟨Ao6, co6, eo6⟩ := Kd.R_slice HO138.out; subst eo6) | ((with_reducible refine gate_callee (f := 32) rfl ?_); refine goesL_ (some 8) rfl rfl Try.func32 (by kernel_rfl) rfl #[.slice Ao6 y136.length co6] rfl (by (try simp only [List.map_toArray, List.map_cons, List.map_nil]); first | done | rfl | (simp only [List.length_drop, List.length_take]; rfl)) ?_; (with_reducible refine (param_Load.calls k _ _ y136 t139 t140 t141 _ ?side1 ?side2 A1.out).mono ?_); (case side1 => repeat (first | exact (Kd.R_reads' HO138.out).2.2 | (with_reducible refine Kd.C_alloc ?_ _) | (with_reducible refine Kd.C_drewN ?_ _) | (with_reducible refine Kd.C_drew ?_))); (case side2 => exact (Kd.R_reads' HO138.out).2.1); rintro e w7 ⟨rfl, hb⟩; refine ⟨_, rfl, ?_⟩; have n0_ := Aside0.mk (Kd.R_below (by (with_reducible repeat (first | apply Kd.R_alloc | apply Kd.R_drewN | apply Kd.R_drew)); exact HO138.out) hb); have n1_ := Aside0.mk (below_step (by repeat (first | (with_reducible first | exact HB.out | apply below_alloc | apply pw_below_drewN | apply below_drew1) | exact HB.out)) hb); clear HO138; clear HB; have HO138 := n0_; have HB := n1_; clear n0_ n1_; (try clear hb); (try clear hb2); (try clear hk); (try clear hi)))
      go_ret
      exact ⟨by first | rfl | (simp [errW_none, errW_some] <;> rfl) | (simp [*, errW_none, errW_some] <;> rfl), by repeat (first | (with_reducible first | exact HB.out | apply below_alloc | apply pw_below_drewN | apply below_drew1) | exact HB.out)⟩
    · rw [if_neg c3] at H
      have c3b0 : (t140 == 12) = false := beq_eq_false_iff_ne.mpr c3
      have c3b1 : (t140 != 12) = true := bne_iff_ne.mpr c3
      obtain rfl := Option.some.inj H
      go_enter Try.func11, Try.ntmps11
      go_wp2_with (first | ((with_reducible refine gate_dst (N := 7) rfl ?_); refine Kd.R_lit k28 _ 28 ?hg (N := 7) ?hd (xs := ([(⟨1, 1, 4, 4, 1⟩ : S28), (⟨2, 1, 6, 6, 1⟩ : S28)] : List (S28))) (inner := [.int .i64 1, .int .i64 1, .int .i64 4, .int .i64 4, .int .i64 1, .int .i64 2, .int .i64 1, .int .i64 6, .int .i64 6, .int .i64 1]) (ok := fun _ => True) (okp := fun _ => True) ?hr ?hp (fun _ hk => hk) trivial (Below.refl _ _) (Nat.le_refl _) (by simp) ?_; (case hd => rfl); (case hg => rfl); (case hr => first | (go_simp; done) | (go_simp; rfl)); (case hp => exact (Reps.c5 (show Kd.M k28 _ _ _ (⟨1, 1, 4, 4, 1⟩ : S28) [.int .i64 1, .int .i64 1, .int .i64 4, .int .i64 4, .int .i64 1] from (k28_mkM _ _ _ (⟨1, 1, 4, 4, 1⟩ : S28) )) (Reps.c5 (show Kd.M k28 _ _ _ (⟨2, 1, 6, 6, 1⟩ : S28) [.int .i64 2, .int .i64 1, .int .i64 6, .int .i64 6, .int .i64 1] from (k28_mkM _ _ _ (⟨2, 1, 6, 6, 1⟩ : S28) )) (Reps.none _ _)))); intro v137 w8 ho9 hb hg_ hnew_; clear hg_ hnew_; (first | rw [← Ny136.out] at ho9 | (simp only [Int.reduceToNat] at ho9; rw [← Ny136.out] at ho9)); have n0_ := Aside0.mk (Kd.R_lower ho9 (below_size (by repeat (first | (with_reducible first | exact HB.out | apply below_alloc | apply pw_below_drewN | apply below_drew1) | exact HB.out)))); have n1_ := Aside0.mk (below_step (by repeat (first | (with_reducible first | exact HB.out | apply below_alloc | apply pw_below_drewN | apply below_drew1) | exact HB.out)) hb); clear HB; have HO138 := n0_; have HB := n1_; clear n0_ n1_; clear hb ho9; obtain ⟨Ao10, co10, eo10⟩ := Kd.R_slice HO138.out; subst eo10) | ((with_reducible refine gate_callee (f := 32) rfl ?_); refine goesL_ (some 8) rfl rfl Try.func32 (by kernel_rfl) rfl #[.slice Ao10 y136.length co10] rfl (by (try simp only [List.map_toArray, List.map_cons, List.map_nil]); first | done | rfl | (simp only [List.length_drop, List.length_take]; rfl)) ?_; (with_reducible refine (param_Load.calls k _ _ y136 t139 t140 t141 _ ?side1 ?side2 A1.out).mono ?_); (case side1 => repeat (first | exact (Kd.R_reads' HO138.out).2.2 | (with_reducible refine Kd.C_alloc ?_ _) | (with_reducible refine Kd.C_drewN ?_ _) | (with_reducible refine Kd.C_drew ?_))); (case side2 => exact (Kd.R_reads' HO138.out).2.1); rintro e w11 ⟨rfl, hb⟩; refine ⟨_, rfl, ?_⟩; have n0_ := Aside0.mk (Kd.R_below (by (with_reducible repeat (first | apply Kd.R_alloc | apply Kd.R_drewN | apply Kd.R_drew)); exact HO138.out) hb); have n1_ := Aside0.mk (below_step (by repeat (first | (with_reducible first | exact HB.out | apply below_alloc | apply pw_below_drewN | apply below_drew1) | exact HB.out)) hb); clear HO138; clear HB; have HO138 := n0_; have HB := n1_; clear n0_ n1_; (try clear hb); (try clear hb2); (try clear hk); (try clear hi)))
      go_ret
      exact ⟨by first | rfl | (simp [errW_none, errW_some] <;> rfl) | (simp [*, errW_none, errW_some] <;> rfl), by repeat (first | (with_reducible first | exact HB.out | apply below_alloc | apply pw_below_drewN | apply below_drew1) | exact HB.out)⟩
  · rw [if_neg c2] at H
    have c2b0 : (t139 == 5) = false := beq_eq_false_iff_ne.mpr c2
    have c2b1 : (t139 != 5) = true := bne_iff_ne.mpr c2
    obtain rfl := Option.some.inj H
    go_enter Try.func11, Try.ntmps11
    go_wp2_with (first | ((with_reducible refine gate_dst (N := 7) rfl ?_); refine Kd.R_lit k28 _ 28 ?hg (N := 7) ?hd (xs := ([(⟨1, 1, 4, 4, 1⟩ : S28), (⟨2, 1, 6, 6, 1⟩ : S28)] : List (S28))) (inner := [.int .i64 1, .int .i64 1, .int .i64 4, .int .i64 4, .int .i64 1, .int .i64 2, .int .i64 1, .int .i64 6, .int .i64 6, .int .i64 1]) (ok := fun _ => True) (okp := fun _ => True) ?hr ?hp (fun _ hk => hk) trivial (Below.refl _ _) (Nat.le_refl _) (by simp) ?_; (case hd => rfl); (case hg => rfl); (case hr => first | (go_simp; done) | (go_simp; rfl)); (case hp => exact (Reps.c5 (show Kd.M k28 _ _ _ (⟨1, 1, 4, 4, 1⟩ : S28) [.int .i64 1, .int .i64 1, .int .i64 4, .int .i64 4, .int .i64 1] from (k28_mkM _ _ _ (⟨1, 1, 4, 4, 1⟩ : S28) )) (Reps.c5 (show Kd.M k28 _ _ _ (⟨2, 1, 6, 6, 1⟩ : S28) [.int .i64 2, .int .i64 1, .int .i64 6, .int .i64 6, .int .i64 1] from (k28_mkM _ _ _ (⟨2, 1, 6, 6, 1⟩ : S28) )) (Reps.none _ _)))); intro v137 w12 ho13 hb hg_ hnew_; clear hg_ hnew_; (first | rw [← Ny136.out] at ho13 | (simp only [Int.reduceToNat] at ho13; rw [← Ny136.out] at ho13)); have n0_ := Aside0.mk (Kd.R_lower ho13 (below_size (by repeat (first | (with_reducible first | exact HB.out | apply below_alloc | apply pw_below_drewN | apply below_drew1) | exact HB.out)))); have n1_ := Aside0.mk (below_step (by repeat (first | (with_reducible first | exact HB.out | apply below_alloc | apply pw_below_drewN | apply below_drew1) | exact HB.out)) hb); clear HB; have HO138 := n0_; have HB := n1_; clear n0_ n1_; clear hb ho13; obtain ⟨Ao14, co14, eo14⟩ := Kd.R_slice HO138.out; subst eo14) | ((with_reducible refine gate_callee (f := 32) rfl ?_); refine goesL_ (some 8) rfl rfl Try.func32 (by kernel_rfl) rfl #[.slice Ao14 y136.length co14] rfl (by (try simp only [List.map_toArray, List.map_cons, List.map_nil]); first | done | rfl | (simp only [List.length_drop, List.length_take]; rfl)) ?_; (with_reducible refine (param_Load.calls k _ _ y136 t139 t140 t141 _ ?side1 ?side2 A1.out).mono ?_); (case side1 => repeat (first | exact (Kd.R_reads' HO138.out).2.2 | (with_reducible refine Kd.C_alloc ?_ _) | (with_reducible refine Kd.C_drewN ?_ _) | (with_reducible refine Kd.C_drew ?_))); (case side2 => exact (Kd.R_reads' HO138.out).2.1); rintro e w15 ⟨rfl, hb⟩; refine ⟨_, rfl, ?_⟩; have n0_ := Aside0.mk (Kd.R_below (by (with_reducible repeat (first | apply Kd.R_alloc | apply Kd.R_drewN | apply Kd.R_drew)); exact HO138.out) hb); have n1_ := Aside0.mk (below_step (by repeat (first | (with_reducible first | exact HB.out | apply below_alloc | apply pw_below_drewN | apply below_drew1) | exact HB.out)) hb); clear HO138; clear HB; have HO138 := n0_; have HB := n1_; clear n0_ n1_; (try clear hb); (try clear hb2); (try clear hk); (try clear hi)))
    go_ret
    exact ⟨by first | rfl | (simp [errW_none, errW_some] <;> rfl) | (simp [*, errW_none, errW_some] <;> rfl), by repeat (first | (with_reducible first | exact HB.out | apply below_alloc | apply pw_below_drewN | apply below_drew1) | exact HB.out)⟩

/-! ### horariumlaw09_made: function 12 -/
def horariumlaw09_made.l0 : Nat → List (S22) → List (S28) → Int → Option ((List (S28)))
  | 0, _, _, _ => none
  | k + 1, x0, x3, x4 => if x4 < (x0.length : Int) then (if x4 < 16 then (if 0 ≤ x4 then (if (wrap64 (1 + (Int.tmod (wrap64 ((Int.tmod ((rd_T22 x0 x4).f2) 24) + 24)) 24))) = 0 then (none) else (if (wrap64 (1 + (Int.tmod (wrap64 ((Int.tmod ((rd_T22 x0 x4).f1) (wrap64 (1 + (Int.tmod (wrap64 ((Int.tmod ((rd_T22 x0 x4).f2) 24) + 24)) 24)))) + (wrap64 (1 + (Int.tmod (wrap64 ((Int.tmod ((rd_T22 x0 x4).f2) 24) + 24)) 24))))) (wrap64 (1 + (Int.tmod (wrap64 ((Int.tmod ((rd_T22 x0 x4).f2) 24) + 24)) 24)))))) = 0 then (none) else (if x3.length < 3518437208883 then (horariumlaw09_made.l0 k x0 (x3 ++ [(⟨x4, wrap64 (1 + (Int.tmod (wrap64 ((Int.tmod ((rd_T22 x0 x4).f0) (wrap64 (1 + (Int.tmod (wrap64 ((Int.tmod ((rd_T22 x0 x4).f1) (wrap64 (1 + (Int.tmod (wrap64 ((Int.tmod ((rd_T22 x0 x4).f2) 24) + 24)) 24)))) + (wrap64 (1 + (Int.tmod (wrap64 ((Int.tmod ((rd_T22 x0 x4).f2) 24) + 24)) 24))))) (wrap64 (1 + (Int.tmod (wrap64 ((Int.tmod ((rd_T22 x0 x4).f2) 24) + 24)) 24))))))) + (wrap64 (1 + (Int.tmod (wrap64 ((Int.tmod ((rd_T22 x0 x4).f1) (wrap64 (1 + (Int.tmod (wrap64 ((Int.tmod ((rd_T22 x0 x4).f2) 24) + 24)) 24)))) + (wrap64 (1 + (Int.tmod (wrap64 ((Int.tmod ((rd_T22 x0 x4).f2) 24) + 24)) 24))))) (wrap64 (1 + (Int.tmod (wrap64 ((Int.tmod ((rd_T22 x0 x4).f2) 24) + 24)) 24)))))))) (wrap64 (1 + (Int.tmod (wrap64 ((Int.tmod ((rd_T22 x0 x4).f1) (wrap64 (1 + (Int.tmod (wrap64 ((Int.tmod ((rd_T22 x0 x4).f2) 24) + 24)) 24)))) + (wrap64 (1 + (Int.tmod (wrap64 ((Int.tmod ((rd_T22 x0 x4).f2) 24) + 24)) 24))))) (wrap64 (1 + (Int.tmod (wrap64 ((Int.tmod ((rd_T22 x0 x4).f2) 24) + 24)) 24)))))))), wrap64 (1 + (Int.tmod (wrap64 ((Int.tmod ((rd_T22 x0 x4).f1) (wrap64 (1 + (Int.tmod (wrap64 ((Int.tmod ((rd_T22 x0 x4).f2) 24) + 24)) 24)))) + (wrap64 (1 + (Int.tmod (wrap64 ((Int.tmod ((rd_T22 x0 x4).f2) 24) + 24)) 24))))) (wrap64 (1 + (Int.tmod (wrap64 ((Int.tmod ((rd_T22 x0 x4).f2) 24) + 24)) 24))))), wrap64 (1 + (Int.tmod (wrap64 ((Int.tmod ((rd_T22 x0 x4).f2) 24) + 24)) 24)), 1⟩ : S28)]) (wrap64 (x4 + 1))) else (none)))) else (none)) else (some x3)) else (some x3)
def horariumlaw09_made.f (k : Nat) (l0 : List (S22)) : Option ((List (S28))) := horariumlaw09_made.l0 k l0 ([] : List (S28)) 0
theorem horariumlaw09_made.mono_l : ∀ k, (∀ y0 y1 y2, LeO (horariumlaw09_made.l0 k y0 y1 y2) (horariumlaw09_made.l0 (k + 1) y0 y1 y2))
  | 0 => fun _ _ _ r h => by simp [horariumlaw09_made.l0] at h
  | k + 1 => by
    have ih0 := horariumlaw09_made.mono_l k
    · intro y0 y1 y2
      unfold horariumlaw09_made.l0
      repeat' first
      | (with_reducible exact ih0 _ _ _)
      | (with_reducible exact LeO.refl _)
      | (with_reducible exact LeO.none _)
      | (with_reducible refine LeO.ite ?_ ?_)
      | (with_reducible refine LeO.bind ?_ (fun _ => ?_))
      | exact ih0 _ _ _
      | exact LeO.none _
      | refine LeO.ite ?_ ?_
      | refine LeO.bind ?_ (fun _ => ?_)
theorem horariumlaw09_made.mono : ∀ a0 k, LeO (horariumlaw09_made.f k a0) (horariumlaw09_made.f (k + 1) a0) := by
  intro a0 k
  have ih0 := horariumlaw09_made.mono_l k
  unfold horariumlaw09_made.f
  repeat' first
      | (with_reducible exact ih0 _ _ _)
      | (with_reducible exact LeO.refl _)
      | (with_reducible exact LeO.none _)
      | (with_reducible refine LeO.ite ?_ ?_)
      | (with_reducible refine LeO.bind ?_ (fun _ => ?_))
      | exact ih0 _ _ _
      | exact LeO.none _
      | refine LeO.ite ?_ ?_
      | refine LeO.bind ?_ (fun _ => ?_)
set_option maxHeartbeats 8000000 in
set_option maxRecDepth 100000 in
theorem horariumlaw09_made.calls (k : Nat) (A0 : Option Addr) (c0 : Nat) (l0 : List (S22)) (r : List (S28)) (w : World) (hr0 : Kd.C k22 w A0 l0.length l0) (hc0 : l0.length ≤ c0) (h : horariumlaw09_made.f k l0 = some r) :
    Calls Try.prog 12 #[.slice A0 l0.length c0] w fun e w' => ∃ v0_ : Value, e = .returned (v0_) ∧ Kd.R k28 28 w' w.heap.size (fun _ => True) v0_ r ∧ Below w.heap.size w w' := by
  have hu28 := Try.underlying28
  have HR0 := Aside0.mk hr0
  have HC0 := Aside0.mk hc0
  clear hr0 hc0
  have HB := Aside0.mk (Below.refl w.heap.size w)
  have H : (horariumlaw09_made.l0 k l0 ([] : List (S28)) 0) = some r := h
  clear h
  have H' := Aside0.mk H
  clear H
  go_enter Try.func12, Try.ntmps12
  go_wp2
  go_loopg [3, 4] k (fun kq v3 v4 w' => ∃ (x3_1 : List (S28)) (x4_1 : Int), v4 = .int .i64 x4_1 ∧ Aside0 (horariumlaw09_made.l0 kq l0 x3_1 x4_1 = some r) ∧ Aside0 (kq ≤ k) ∧ Aside0 (Kd.R k28 28 w' w.heap.size (fun _ => True) v3 x3_1) ∧ Aside0 (Below w.heap.size w w'))
  case atStart => exact ⟨(([] : List (S28))), (0), (by first | rfl | (simp; done) | (simp [*]; done)), H', ⟨Nat.le_refl _⟩, ⟨by first | exact Kd.R_nil _ _ _ _ _ | exact Kd.N_nil _ _ _ _ _ | exact Kd.V_nil _ _ _ _ _ | exact Kd.Q_nil _ _ _ _ _ | exact Kd.S_nil _ _ _ _ _⟩, ⟨by repeat (first | (with_reducible first | exact HB.out | apply below_alloc | apply pw_below_drewN | apply below_drew1) | exact HB.out)⟩⟩
  case round =>
    clear H'
    try clear c1
    obtain ⟨x3_1, x4_1, rfl, HA, HK1, HO_3, HB⟩ := hrel
    cases gk with
    | zero => exact absurd HA.out (by simp [horariumlaw09_made.l0])
    | succ k1 =>
      have H := HA.out
      clear HA
      simp only [horariumlaw09_made.l0] at H
      by_cases c2 : x4_1 < (l0.length : Int)
      · rw [if_pos c2] at H
        have c2b0 : decide (x4_1 < (l0.length : Int)) = true := decide_eq_true c2
        clear c2
        by_cases c3 : x4_1 < 16
        · rw [if_pos c3] at H
          have c3b0 : decide (x4_1 < 16) = true := decide_eq_true c3
          clear c3
          by_cases c4 : 0 ≤ x4_1
          · rw [if_pos c4] at H
            have c4b0 : decide (0 ≤ x4_1) = true := decide_eq_true c4
            clear c4
            by_cases c5 : (wrap64 (1 + (Int.tmod (wrap64 ((Int.tmod ((rd_T22 l0 x4_1).f2) 24) + 24)) 24))) = 0
            · rw [if_pos c5] at H
              exact absurd H (by simp)
            · rw [if_neg c5] at H
              have c5b0 : ((wrap64 (1 + (Int.tmod (wrap64 ((Int.tmod ((rd_T22 l0 x4_1).f2) 24) + 24)) 24))) == 0) = false := beq_eq_false_iff_ne.mpr c5
              have c5b1 : ((wrap64 (1 + (Int.tmod (wrap64 ((Int.tmod ((rd_T22 l0 x4_1).f2) 24) + 24)) 24))) != 0) = true := bne_iff_ne.mpr c5
              by_cases c6 : (wrap64 (1 + (Int.tmod (wrap64 ((Int.tmod ((rd_T22 l0 x4_1).f1) (wrap64 (1 + (Int.tmod (wrap64 ((Int.tmod ((rd_T22 l0 x4_1).f2) 24) + 24)) 24)))) + (wrap64 (1 + (Int.tmod (wrap64 ((Int.tmod ((rd_T22 l0 x4_1).f2) 24) + 24)) 24))))) (wrap64 (1 + (Int.tmod (wrap64 ((Int.tmod ((rd_T22 l0 x4_1).f2) 24) + 24)) 24)))))) = 0
              · rw [if_pos c6] at H
                exact absurd H (by simp)
              · rw [if_neg c6] at H
                have c6b0 : ((wrap64 (1 + (Int.tmod (wrap64 ((Int.tmod ((rd_T22 l0 x4_1).f1) (wrap64 (1 + (Int.tmod (wrap64 ((Int.tmod ((rd_T22 l0 x4_1).f2) 24) + 24)) 24)))) + (wrap64 (1 + (Int.tmod (wrap64 ((Int.tmod ((rd_T22 l0 x4_1).f2) 24) + 24)) 24))))) (wrap64 (1 + (Int.tmod (wrap64 ((Int.tmod ((rd_T22 l0 x4_1).f2) 24) + 24)) 24)))))) == 0) = false := beq_eq_false_iff_ne.mpr c6
                have c6b1 : ((wrap64 (1 + (Int.tmod (wrap64 ((Int.tmod ((rd_T22 l0 x4_1).f1) (wrap64 (1 + (Int.tmod (wrap64 ((Int.tmod ((rd_T22 l0 x4_1).f2) 24) + 24)) 24)))) + (wrap64 (1 + (Int.tmod (wrap64 ((Int.tmod ((rd_T22 l0 x4_1).f2) 24) + 24)) 24))))) (wrap64 (1 + (Int.tmod (wrap64 ((Int.tmod ((rd_T22 l0 x4_1).f2) 24) + 24)) 24)))))) != 0) = true := bne_iff_ne.mpr c6
                by_cases c7 : x3_1.length < 3518437208883
                · rw [if_pos c7] at H
                  have LMc7 := Aside0.mk c7
                  clear c7
                  obtain ⟨y145, hy145⟩ : ∃ y_ : List (S28), y_ = (x3_1 ++ [(⟨x4_1, wrap64 (1 + (Int.tmod (wrap64 ((Int.tmod ((rd_T22 l0 x4_1).f0) (wrap64 (1 + (Int.tmod (wrap64 ((Int.tmod ((rd_T22 l0 x4_1).f1) (wrap64 (1 + (Int.tmod (wrap64 ((Int.tmod ((rd_T22 l0 x4_1).f2) 24) + 24)) 24)))) + (wrap64 (1 + (Int.tmod (wrap64 ((Int.tmod ((rd_T22 l0 x4_1).f2) 24) + 24)) 24))))) (wrap64 (1 + (Int.tmod (wrap64 ((Int.tmod ((rd_T22 l0 x4_1).f2) 24) + 24)) 24))))))) + (wrap64 (1 + (Int.tmod (wrap64 ((Int.tmod ((rd_T22 l0 x4_1).f1) (wrap64 (1 + (Int.tmod (wrap64 ((Int.tmod ((rd_T22 l0 x4_1).f2) 24) + 24)) 24)))) + (wrap64 (1 + (Int.tmod (wrap64 ((Int.tmod ((rd_T22 l0 x4_1).f2) 24) + 24)) 24))))) (wrap64 (1 + (Int.tmod (wrap64 ((Int.tmod ((rd_T22 l0 x4_1).f2) 24) + 24)) 24)))))))) (wrap64 (1 + (Int.tmod (wrap64 ((Int.tmod ((rd_T22 l0 x4_1).f1) (wrap64 (1 + (Int.tmod (wrap64 ((Int.tmod ((rd_T22 l0 x4_1).f2) 24) + 24)) 24)))) + (wrap64 (1 + (Int.tmod (wrap64 ((Int.tmod ((rd_T22 l0 x4_1).f2) 24) + 24)) 24))))) (wrap64 (1 + (Int.tmod (wrap64 ((Int.tmod ((rd_T22 l0 x4_1).f2) 24) + 24)) 24)))))))), wrap64 (1 + (Int.tmod (wrap64 ((Int.tmod ((rd_T22 l0 x4_1).f1) (wrap64 (1 + (Int.tmod (wrap64 ((Int.tmod ((rd_T22 l0 x4_1).f2) 24) + 24)) 24)))) + (wrap64 (1 + (Int.tmod (wrap64 ((Int.tmod ((rd_T22 l0 x4_1).f2) 24) + 24)) 24))))) (wrap64 (1 + (Int.tmod (wrap64 ((Int.tmod ((rd_T22 l0 x4_1).f2) 24) + 24)) 24))))), wrap64 (1 + (Int.tmod (wrap64 ((Int.tmod ((rd_T22 l0 x4_1).f2) 24) + 24)) 24)), 1⟩ : S28)]) := ⟨_, rfl⟩
                  replace H : (horariumlaw09_made.l0 k1 l0 y145 (wrap64 (x4_1 + 1))) = some r := by first | (rw [hy145]; with_reducible exact H) | (have H2_ := (Option.bind_some _ _).symm.trans H; rw [hy145]; with_reducible exact H2_) | (have H2_ := (Option.bind_some _ _).symm.trans H; with_reducible exact H2_) | with_reducible exact H | (rw [hy145]; exact H) | exact H
                  have Ny145 := Aside0.mk hy145
                  clear hy145
                  have H' := Aside0.mk H
                  clear H
                  have p142 : 0 ≤ (x4_1 : Int) := of_decide_eq_true (by first | (with_reducible assumption) | assumption)
                  have q142 : x4_1 < (l0.length : Int) := of_decide_eq_true (by first | (with_reducible assumption) | assumption)
                  obtain ⟨ad142, e142, hx142_0, hx142_1, hx142_2⟩ := at_T22 HR0.out x4_1 p142 q142
                  cases e142
                  replace hx142_0 := (HB.out.cell (World.block_lt_of_cell? w _ hx142_0)).trans hx142_0
                  replace hx142_1 := (HB.out.cell (World.block_lt_of_cell? w _ hx142_1)).trans hx142_1
                  replace hx142_2 := (HB.out.cell (World.block_lt_of_cell? w _ hx142_2)).trans hx142_2
                  replace p142 := eq_true p142
                  replace q142 := eq_true q142
                  have p143 : 0 ≤ (x4_1 : Int) := of_decide_eq_true (by first | (with_reducible assumption) | assumption)
                  have q143 : x4_1 < (l0.length : Int) := of_decide_eq_true (by first | (with_reducible assumption) | assumption)
                  obtain ⟨ad143, e143, hx143_0, hx143_1, hx143_2⟩ := at_T22 HR0.out x4_1 p143 q143
                  obtain rfl : ad142 = ad143 := (by injection e143)
                  replace hx143_0 := (HB.out.cell (World.block_lt_of_cell? w _ hx143_0)).trans hx143_0
                  replace hx143_1 := (HB.out.cell (World.block_lt_of_cell? w _ hx143_1)).trans hx143_1
                  replace hx143_2 := (HB.out.cell (World.block_lt_of_cell? w _ hx143_2)).trans hx143_2
                  replace p143 := eq_true p143
                  replace q143 := eq_true q143
                  have p144 : 0 ≤ (x4_1 : Int) := of_decide_eq_true (by first | (with_reducible assumption) | assumption)
                  have q144 : x4_1 < (l0.length : Int) := of_decide_eq_true (by first | (with_reducible assumption) | assumption)
                  obtain ⟨ad144, e144, hx144_0, hx144_1, hx144_2⟩ := at_T22 HR0.out x4_1 p144 q144
                  obtain rfl : ad142 = ad144 := (by injection e144)
                  replace hx144_0 := (HB.out.cell (World.block_lt_of_cell? w _ hx144_0)).trans hx144_0
                  replace hx144_1 := (HB.out.cell (World.block_lt_of_cell? w _ hx144_1)).trans hx144_1
                  replace hx144_2 := (HB.out.cell (World.block_lt_of_cell? w _ hx144_2)).trans hx144_2
                  replace p144 := eq_true p144
                  replace q144 := eq_true q144
                  go_wp2_with (first | ((with_reducible refine gate_builtin (b := .append) (xs := #[.tmp 38, .tmp 55]) rfl ?_); at_builtin; refine Kd.R_append k28 (w0 := w) w.heap.size rfl (.tmp 38) (.tmp 55) 24 28 (.agg #[(.int .i64 0), (.int .i64 0), (.int .i64 0), (.int .i64 0), (.int .i64 0)]) 40 rfl Try.underlying24 info28 rfl (by decide) (by omega) u3 x3_1 (⟨x4_1, wrap64 (1 + (Int.tmod (wrap64 ((Int.tmod ((rd_T22 l0 x4_1).f0) (wrap64 (1 + (Int.tmod (wrap64 ((Int.tmod ((rd_T22 l0 x4_1).f1) (wrap64 (1 + (Int.tmod (wrap64 ((Int.tmod ((rd_T22 l0 x4_1).f2) 24) + 24)) 24)))) + (wrap64 (1 + (Int.tmod (wrap64 ((Int.tmod ((rd_T22 l0 x4_1).f2) 24) + 24)) 24))))) (wrap64 (1 + (Int.tmod (wrap64 ((Int.tmod ((rd_T22 l0 x4_1).f2) 24) + 24)) 24))))))) + (wrap64 (1 + (Int.tmod (wrap64 ((Int.tmod ((rd_T22 l0 x4_1).f1) (wrap64 (1 + (Int.tmod (wrap64 ((Int.tmod ((rd_T22 l0 x4_1).f2) 24) + 24)) 24)))) + (wrap64 (1 + (Int.tmod (wrap64 ((Int.tmod ((rd_T22 l0 x4_1).f2) 24) + 24)) 24))))) (wrap64 (1 + (Int.tmod (wrap64 ((Int.tmod ((rd_T22 l0 x4_1).f2) 24) + 24)) 24)))))))) (wrap64 (1 + (Int.tmod (wrap64 ((Int.tmod ((rd_T22 l0 x4_1).f1) (wrap64 (1 + (Int.tmod (wrap64 ((Int.tmod ((rd_T22 l0 x4_1).f2) 24) + 24)) 24)))) + (wrap64 (1 + (Int.tmod (wrap64 ((Int.tmod ((rd_T22 l0 x4_1).f2) 24) + 24)) 24))))) (wrap64 (1 + (Int.tmod (wrap64 ((Int.tmod ((rd_T22 l0 x4_1).f2) 24) + 24)) 24)))))))), wrap64 (1 + (Int.tmod (wrap64 ((Int.tmod ((rd_T22 l0 x4_1).f1) (wrap64 (1 + (Int.tmod (wrap64 ((Int.tmod ((rd_T22 l0 x4_1).f2) 24) + 24)) 24)))) + (wrap64 (1 + (Int.tmod (wrap64 ((Int.tmod ((rd_T22 l0 x4_1).f2) 24) + 24)) 24))))) (wrap64 (1 + (Int.tmod (wrap64 ((Int.tmod ((rd_T22 l0 x4_1).f2) 24) + 24)) 24))))), wrap64 (1 + (Int.tmod (wrap64 ((Int.tmod ((rd_T22 l0 x4_1).f2) 24) + 24)) 24)), 1⟩ : S28) [.int .i64 x4_1, .int .i64 (wrap64 (1 + (Int.tmod (wrap64 ((Int.tmod ((rd_T22 l0 x4_1).f0) (wrap64 (1 + (Int.tmod (wrap64 ((Int.tmod ((rd_T22 l0 x4_1).f1) (wrap64 (1 + (Int.tmod (wrap64 ((Int.tmod ((rd_T22 l0 x4_1).f2) 24) + 24)) 24)))) + (wrap64 (1 + (Int.tmod (wrap64 ((Int.tmod ((rd_T22 l0 x4_1).f2) 24) + 24)) 24))))) (wrap64 (1 + (Int.tmod (wrap64 ((Int.tmod ((rd_T22 l0 x4_1).f2) 24) + 24)) 24))))))) + (wrap64 (1 + (Int.tmod (wrap64 ((Int.tmod ((rd_T22 l0 x4_1).f1) (wrap64 (1 + (Int.tmod (wrap64 ((Int.tmod ((rd_T22 l0 x4_1).f2) 24) + 24)) 24)))) + (wrap64 (1 + (Int.tmod (wrap64 ((Int.tmod ((rd_T22 l0 x4_1).f2) 24) + 24)) 24))))) (wrap64 (1 + (Int.tmod (wrap64 ((Int.tmod ((rd_T22 l0 x4_1).f2) 24) + 24)) 24)))))))) (wrap64 (1 + (Int.tmod (wrap64 ((Int.tmod ((rd_T22 l0 x4_1).f1) (wrap64 (1 + (Int.tmod (wrap64 ((Int.tmod ((rd_T22 l0 x4_1).f2) 24) + 24)) 24)))) + (wrap64 (1 + (Int.tmod (wrap64 ((Int.tmod ((rd_T22 l0 x4_1).f2) 24) + 24)) 24))))) (wrap64 (1 + (Int.tmod (wrap64 ((Int.tmod ((rd_T22 l0 x4_1).f2) 24) + 24)) 24))))))))), .int .i64 (wrap64 (1 + (Int.tmod (wrap64 ((Int.tmod ((rd_T22 l0 x4_1).f1) (wrap64 (1 + (Int.tmod (wrap64 ((Int.tmod ((rd_T22 l0 x4_1).f2) 24) + 24)) 24)))) + (wrap64 (1 + (Int.tmod (wrap64 ((Int.tmod ((rd_T22 l0 x4_1).f2) 24) + 24)) 24))))) (wrap64 (1 + (Int.tmod (wrap64 ((Int.tmod ((rd_T22 l0 x4_1).f2) 24) + 24)) 24)))))), .int .i64 (wrap64 (1 + (Int.tmod (wrap64 ((Int.tmod ((rd_T22 l0 x4_1).f2) 24) + 24)) 24))), .int .i64 1] (fun _ => True) (fun _ => False) rfl rfl ?aP (fun _ hk => hk.elim) ?aF ?aO ?aB ?aS ?aL ?_; (case aP => exact k28_mkM _ _ _ (⟨x4_1, wrap64 (1 + (Int.tmod (wrap64 ((Int.tmod ((rd_T22 l0 x4_1).f0) (wrap64 (1 + (Int.tmod (wrap64 ((Int.tmod ((rd_T22 l0 x4_1).f1) (wrap64 (1 + (Int.tmod (wrap64 ((Int.tmod ((rd_T22 l0 x4_1).f2) 24) + 24)) 24)))) + (wrap64 (1 + (Int.tmod (wrap64 ((Int.tmod ((rd_T22 l0 x4_1).f2) 24) + 24)) 24))))) (wrap64 (1 + (Int.tmod (wrap64 ((Int.tmod ((rd_T22 l0 x4_1).f2) 24) + 24)) 24))))))) + (wrap64 (1 + (Int.tmod (wrap64 ((Int.tmod ((rd_T22 l0 x4_1).f1) (wrap64 (1 + (Int.tmod (wrap64 ((Int.tmod ((rd_T22 l0 x4_1).f2) 24) + 24)) 24)))) + (wrap64 (1 + (Int.tmod (wrap64 ((Int.tmod ((rd_T22 l0 x4_1).f2) 24) + 24)) 24))))) (wrap64 (1 + (Int.tmod (wrap64 ((Int.tmod ((rd_T22 l0 x4_1).f2) 24) + 24)) 24)))))))) (wrap64 (1 + (Int.tmod (wrap64 ((Int.tmod ((rd_T22 l0 x4_1).f1) (wrap64 (1 + (Int.tmod (wrap64 ((Int.tmod ((rd_T22 l0 x4_1).f2) 24) + 24)) 24)))) + (wrap64 (1 + (Int.tmod (wrap64 ((Int.tmod ((rd_T22 l0 x4_1).f2) 24) + 24)) 24))))) (wrap64 (1 + (Int.tmod (wrap64 ((Int.tmod ((rd_T22 l0 x4_1).f2) 24) + 24)) 24)))))))), wrap64 (1 + (Int.tmod (wrap64 ((Int.tmod ((rd_T22 l0 x4_1).f1) (wrap64 (1 + (Int.tmod (wrap64 ((Int.tmod ((rd_T22 l0 x4_1).f2) 24) + 24)) 24)))) + (wrap64 (1 + (Int.tmod (wrap64 ((Int.tmod ((rd_T22 l0 x4_1).f2) 24) + 24)) 24))))) (wrap64 (1 + (Int.tmod (wrap64 ((Int.tmod ((rd_T22 l0 x4_1).f2) 24) + 24)) 24))))), wrap64 (1 + (Int.tmod (wrap64 ((Int.tmod ((rd_T22 l0 x4_1).f2) 24) + 24)) 24)), 1⟩ : S28)); (case aB => exact (by repeat (first | (with_reducible first | exact HB.out | apply below_alloc | apply pw_below_drewN | apply below_drew1) | exact HB.out))); (case aF => exact (fun _ _ => trivial)); (case aO => exact (by (with_reducible repeat (first | apply Kd.R_alloc | apply Kd.R_drewN | apply Kd.R_drew)); exact HO_3.out)); (case aS => exact (below_size (by repeat (first | (with_reducible first | exact HB.out | apply below_alloc | apply pw_below_drewN | apply below_drew1) | exact HB.out)))); (case aL => have := LMc7.out; omega); intro v146 w8 ho hb hg hat; rw [← Ny145.out] at ho; have n0_ := Aside0.mk (hb); have n1_ := Aside0.mk (ho); clear HB; clear HO_3; have HB := n0_; have HO147 := n1_; clear n0_ n1_; clear ho hb hg hat))
                  go_roundg k1
                  case measure => have := HK1.out; omega
                  case rel => exact ⟨(y145), (wrap64 (x4_1 + 1)), (by first | rfl | (simp; done) | (simp [*]; done)), H', ⟨by have := HK1.out; omega⟩, ⟨by (with_reducible repeat (first | apply Kd.R_alloc | apply Kd.R_drewN | apply Kd.R_drew)); exact HO147.out⟩, ⟨by repeat (first | (with_reducible first | exact HB.out | apply below_alloc | apply pw_below_drewN | apply below_drew1) | exact HB.out)⟩⟩
                · rw [if_neg c7] at H
                  exact absurd H (by simp)
          · rw [if_neg c4] at H
            exact absurd H (by simp)
        · rw [if_neg c3] at H
          have c3b0 : decide (x4_1 < 16) = false := decide_eq_false c3
          clear c3
          obtain rfl := Option.some.inj H
          go_wp2
          go_ret
          exact ⟨_, by first | rfl | (simp [errW_none, errW_some] <;> rfl) | (simp [*, errW_none, errW_some] <;> rfl), by (with_reducible repeat (first | apply Kd.R_alloc | apply Kd.R_drewN | apply Kd.R_drew)); exact HO_3.out, by repeat (first | (with_reducible first | exact HB.out | apply below_alloc | apply pw_below_drewN | apply below_drew1) | exact HB.out)⟩
      · rw [if_neg c2] at H
        have c2b0 : decide (x4_1 < (l0.length : Int)) = false := decide_eq_false c2
        clear c2
        obtain rfl := Option.some.inj H
        go_wp2
        go_ret
        exact ⟨_, by first | rfl | (simp [errW_none, errW_some] <;> rfl) | (simp [*, errW_none, errW_some] <;> rfl), by (with_reducible repeat (first | apply Kd.R_alloc | apply Kd.R_drewN | apply Kd.R_drew)); exact HO_3.out, by repeat (first | (with_reducible first | exact HB.out | apply below_alloc | apply pw_below_drewN | apply below_drew1) | exact HB.out)⟩

/-! ### horariumlaw09_ParamHeavier: function 3 (by hand) -/
/-- The first j of n operations have come up. -/
def pre_ (n j : Nat) : Array Bool := (List.replicate j true ++ List.replicate (n - j) false).toArray
theorem pureJ_ {P : Program} {ops : Array Oper} {md : Region.Mode} {S : World → Prop} {Q : Exit → Act → World → Prop} {ds : List Nat} {n i j' : Nat} {N : Option Tmp} {oi : Oper} {v : Value} {fuel : Nat} {a : Act} {w : World} (hi : ops.toList[i]? = some oi) (hN : oi.dst = N) (hc : anyB md ops (pre_ n i) (pre_ n (i + 1)) i = true)
    (hQ : ∀ c a w, Q (.panic c) (a.put oi.dst v) w → Q (.panic c) a w) (hj : i + 1 = j') (hy : Yields P ops oi v a) {a' : Act} (ha : a.put N v = a')
    (h : wpAnyLast P md ops Q S ds fuel (pre_ n j') a' w) : wpAnyLast P md ops Q S ds (fuel + 1) (pre_ n i) a w := by
  subst hj
  exact pure_ (pre_ n (i + 1)) (by rw [← Array.getElem?_toList]; exact hi) hN hc hQ hy ha h
theorem takeJ_ {P : Program} {ops : Array Oper} {md : Region.Mode} {S : World → Prop} {Q : Exit → Act → World → Prop} {ds : List Nat} {n i j' : Nat} {N : Option Tmp} {oi : Oper} {v : Value} {fuel : Nat} {a : Act} {w : World} (hi : ops.toList[i]? = some oi) (hN : oi.dst = N) (hc : takeB md ops ds (pre_ n i) (pre_ n (i + 1)) i = true)
    (hQ : ∀ c a w, Q (.panic c) (a.put oi.dst v) w → Q (.panic c) a w) (hj : i + 1 = j') (hy : YieldsIf P ops S oi v a) (hS : S w) {a' : Act} (ha : a.put N v = a')
    (h : wpAnyLast P md ops Q S ds fuel (pre_ n j') a' w) : wpAnyLast P md ops Q S ds (fuel + 1) (pre_ n i) a w := by
  subst hj
  exact take_ (pre_ n (i + 1)) (by rw [← Array.getElem?_toList]; exact hi) hN hc hQ hy hS ha h
/-- The operations of a region that have come up, by the bits of a number. -/
def ms_ (n m : Nat) : Array Bool := ((List.range n).map m.testBit).toArray
theorem w64 {n : Int} (h1 : -9223372036854775808 ≤ n) (h2 : n ≤ 9223372036854775807) : wrap64 n = n := by unfold wrap64; omega
theorem some_k {k : Nat} (h : 0 < k) : ∃ m, k = m + 1 := ⟨k - 1, by omega⟩
theorem tmod_rng (a : Int) {m : Int} (h : 0 < m) : -m < Int.tmod a m ∧ Int.tmod a m < m := by
  rcases Int.le_total 0 a with ha | ha
  · have h2 := Int.tmod_lt_of_pos a h; have h3 := Int.tmod_nonneg m ha; omega
  · have h2 := Int.tmod_lt_of_pos (-a) h; have h3 := Int.tmod_nonneg m (show 0 ≤ -a by omega)
    rw [Int.neg_tmod] at h2 h3; omega
theorem tmod_pos {a m : Int} (h : 0 < m) (ha : 0 ≤ a) : 0 ≤ Int.tmod a m ∧ Int.tmod a m < m := ⟨Int.tmod_nonneg m ha, Int.tmod_lt_of_pos a h⟩
theorem u64_mod (n : Int) : IntKind.u64.wrap n = n % 18446744073709551616 := by simp [IntKind.wrap, IntKind.bits, IntKind.signed]
theorem u64in {n : Int} (h1 : 0 ≤ n) (h2 : n < 18446744073709551616) : IntKind.u64.wrap n = n := by rw [u64_mod]; omega
def tk (s : S28) : Hm.Tk := ⟨s.f0, s.f1, s.f2, s.f3, s.f4⟩
theorem taskB_ok (s : S28) : taskB s = true ↔ (tk s).ok := by
  unfold taskB Hm.Tk.ok tk
  simp only [Bool.and_eq_true, decide_eq_true_eq]
/-- Tasks may be. -/
def okL (l : List S28) : Prop := l.length ≤ 16 ∧ ∀ s ∈ l, (tk s).ok
theorem row_yes {l : List S28} (h : okL l) : param_Row.f l = some true := by
  unfold param_Row.f
  have h1 : l.all taskB = true := by rw [List.all_eq_true]; intro s hs; exact (taskB_ok s).2 (h.2 s hs)
  rw [h1]; simp [h.1]
theorem row_no {l : List S28} (h : ¬ okL l) : param_Row.f l = some false := by
  unfold param_Row.f
  by_cases h1 : l.length ≤ 16
  · have h2 : l.all taskB = false := by
      rw [Bool.eq_false_iff]; intro h3; rw [List.all_eq_true] at h3
      exact h ⟨h1, fun s hs => (taskB_ok s).1 (h3 s hs)⟩
    rw [h2]; simp
  · simp [h1]
theorem okL_map {l : List S28} (h : okL l) : ∀ t ∈ l.map tk, t.ok := by
  intro t ht; obtain ⟨s, hs, rfl⟩ := List.mem_map.1 ht; exact h.2 s hs
theorem rd_mid (pre : List S28) (s : S28) (suf : List S28) : rd_T28 (pre ++ s :: suf) (pre.length : Int) = s := by
  simp [rd_T28]
theorem mask32 {a : Int} (h1 : 0 ≤ a) (h2 : a < 18446744073709551616) : Go.bits .and .u64 a 4294967295 = a % 4294967296 := by
  rw [Go.u64_and a 4294967295 h1 h2 (by omega) (by omega)]
  have : a.toNat &&& (4294967295 : Int).toNat = a.toNat % 4294967296 := Nat.and_two_pow_sub_one_eq_mod a.toNat 32
  rw [this]; omega
theorem Mul64_is {a b : Int} (ha : 0 ≤ a) (ha2 : a < 18446744073709551616) (hb : 0 ≤ b) (hb2 : b < 18446744073709551616) : bits_Mul64.f a b = some (a * b / 18446744073709551616, a * b % 18446744073709551616) := by
  unfold bits_Mul64.f
  rw [mask32 ha ha2, mask32 hb hb2]
  obtain ⟨x1, hx1⟩ : ∃ x, a / 4294967296 = x := ⟨_, rfl⟩
  obtain ⟨x0, hx0⟩ : ∃ x, a % 4294967296 = x := ⟨_, rfl⟩
  obtain ⟨y1, hy1⟩ : ∃ x, b / 4294967296 = x := ⟨_, rfl⟩
  obtain ⟨y0, hy0⟩ : ∃ x, b % 4294967296 = x := ⟨_, rfl⟩
  rw [hx1, hx0, hy1, hy0]
  have ea : a = x1 * 4294967296 + x0 := by omega
  have eb : b = y1 * 4294967296 + y0 := by omega
  have bnd : ∀ u v : Int, 0 ≤ u → u ≤ 4294967295 → 0 ≤ v → v ≤ 4294967295 → 0 ≤ u * v ∧ u * v ≤ 18446744065119617025 := fun u v h1 h2 h3 h4 => by
    refine ⟨Int.mul_nonneg h1 h3, ?_⟩
    have := Int.mul_le_mul h2 h4 h3 (show (0 : Int) ≤ 4294967295 by omega)
    omega
  have p00 := bnd x0 y0 (by omega) (by omega) (by omega) (by omega)
  have p10 := bnd x1 y0 (by omega) (by omega) (by omega) (by omega)
  have p01 := bnd x0 y1 (by omega) (by omega) (by omega) (by omega)
  have p11 := bnd x1 y1 (by omega) (by omega) (by omega) (by omega)
  have e : a * b = x1 * y1 * 18446744073709551616 + (x1 * y0 + x0 * y1) * 4294967296 + x0 * y0 := by
    rw [ea, eb]
    simp only [Int.add_mul, Int.mul_add]
    have h1 : x1 * 4294967296 * (y1 * 4294967296) = x1 * y1 * 18446744073709551616 := by rw [Int.mul_assoc x1, ← Int.mul_assoc 4294967296 y1, Int.mul_comm 4294967296 y1, Int.mul_assoc y1, ← Int.mul_assoc x1]; rfl
    have h2 : x1 * 4294967296 * y0 = x1 * y0 * 4294967296 := Int.mul_right_comm _ _ _
    have h3 : x0 * (y1 * 4294967296) = x0 * y1 * 4294967296 := (Int.mul_assoc _ _ _).symm
    rw [h1, h2, h3]; omega
  rw [u64_mod (a * b), e]
  generalize x0 * y0 = P at *
  generalize x1 * y0 = Q at *
  generalize x0 * y1 = R at *
  generalize x1 * y1 = T at *
  clear ea eb bnd hx0 hx1 hy0 hy1
  rw [u64in (n := P) (by omega) (by omega), u64in (n := Q) (by omega) (by omega), u64in (n := Q + P / 4294967296) (by omega) (by omega), mask32 (by omega) (by omega), u64in (n := R) (by omega) (by omega), u64in (n := T) (by omega) (by omega), u64in (n := T + (Q + P / 4294967296) / 4294967296) (by omega) (by omega), u64in (n := (Q + P / 4294967296) % 4294967296 + R) (by omega) (by omega), u64in (by omega) (by omega)]
  congr 2
  omega
theorem Mul_is {a b : Int} (ha : 0 ≤ a) (ha2 : a < 18446744073709551616) (hb : 0 ≤ b) (hb2 : b < 18446744073709551616) : wide_Mul.f a b = some (a * b / 18446744073709551616, a * b % 18446744073709551616) := by
  unfold wide_Mul.f
  rw [Mul64_is ha ha2 hb hb2]; rfl
/-- -1, 0, 1. -/
def sgn3 (a b : Int) : Int := if a < b then -1 else if b < a then 1 else 0
theorem Compare_is (a b : Int) : cmp_Compare_uint64.f a b = some (sgn3 a b) := by
  unfold cmp_Compare_uint64.f cmp_isNaN_uint64.f sgn3
  simp only [Option.bind_some, bne_self_eq_false, Bool.false_eq_true, if_false]
  split
  · rfl
  · split <;> rfl
theorem Or_is (a b : Int) (k : Nat) (hk : 3 ≤ k) : cmp_Or_int.f k [a, b] = some (if a = 0 then b else a) := by
  obtain ⟨k, rfl⟩ : ∃ m, k = m + 3 := ⟨k - 3, by omega⟩
  unfold cmp_Or_int.f
  have e0 : rd [a, b] 0 = a := rfl
  have e1 : rd [a, b] 1 = b := rfl
  have w1 : wrap64 (0 + 1) = 1 := by unfold wrap64; omega
  have w2 : wrap64 (1 + 1) = 2 := by unfold wrap64; omega
  have hl : (([a, b] : List Int).length : Int) = 2 := rfl
  simp only [cmp_Or_int.l0, e0, e1, w1, w2, hl]
  rw [if_pos (by decide), if_pos (by decide), if_pos (by decide)]
  by_cases ha : a = 0
  · rw [if_pos ha, if_pos ha, if_pos (by decide), if_pos (by decide), if_pos (by decide)]
    by_cases hb : b = 0
    · rw [if_pos hb, if_neg (by decide), hb]
    · rw [if_neg hb]
  · rw [if_neg ha, if_neg ha]
/-- The sign of a comparison of numbers of 128 bits. -/
theorem Cmp_is {h1 l1 h2 l2 : Int} (k : Nat) (b1 : 0 ≤ l1) (b2 : l1 < 18446744073709551616) (b3 : 0 ≤ l2) (b4 : l2 < 18446744073709551616) (hk : 3 ≤ k) :
    wide_Cmp.f k h1 l1 h2 l2 = some (sgn3 (h1 * 18446744073709551616 + l1) (h2 * 18446744073709551616 + l2)) := by
  unfold wide_Cmp.f
  rw [Compare_is]; simp only [Option.bind_some]
  rw [Compare_is]; simp only [Option.bind_some]
  rw [Or_is _ _ k hk]; simp only [Option.bind_some]
  congr 1
  unfold sgn3
  split <;> split <;> (first | omega | (split <;> first | omega | (split <;> first | omega | (split <;> omega))))
theorem Less_is {a b c d : Int} (k : Nat) (ha : 0 ≤ a) (ha2 : a < 18446744073709551616) (hb : 0 ≤ b) (hb2 : b < 18446744073709551616) (hc : 0 ≤ c) (hc2 : c < 18446744073709551616) (hd : 0 ≤ d) (hd2 : d < 18446744073709551616) (hk : 3 ≤ k) :
    wide_Less.f k a b c d = some (decide (b ≠ 0 ∧ d ≠ 0 ∧ a * d < c * b)) := by
  unfold wide_Less.f
  by_cases h0 : b = 0
  · rw [if_pos h0]; simp [h0]
  · rw [if_neg h0]
    by_cases h1 : d = 0
    · rw [if_pos h1]; simp [h1]
    · rw [if_neg h1, Mul_is ha ha2 hd hd2]
      simp only [Option.bind_some]
      rw [Mul_is hc hc2 hb hb2]
      simp only [Option.bind_some]
      have n1 := Int.mul_nonneg ha hd
      have n2 := Int.mul_nonneg hc hb
      generalize a * d = p at *
      generalize c * b = q at *
      rw [Cmp_is k (by omega) (by omega) (by omega) (by omega) hk]
      simp only [Option.bind_some]
      congr 1
      rw [show p / 18446744073709551616 * 18446744073709551616 + p % 18446744073709551616 = p from by omega, show q / 18446744073709551616 * 18446744073709551616 + q % 18446744073709551616 = q from by omega]
      unfold sgn3
      rw [Bool.eq_iff_iff]
      simp only [decide_eq_true_eq]
      split
      · exact ⟨fun _ => ⟨h0, h1, by assumption⟩, fun _ => by omega⟩
      · constructor
        · intro h; split at h <;> omega
        · intro h; omega
theorem less_is {a b : S28} (k : Nat) (ha : (tk a).ok) (hb : (tk b).ok) (hk : 3 ≤ k) : param_Heavier_1.f k a.f0 a.f1 a.f2 a.f3 a.f4 b.f0 b.f1 b.f2 b.f3 b.f4 = some (decide (a.f1 * b.f3 < b.f1 * a.f3)) := by
  obtain ⟨_, _, h2, h3, h4, h5, _, _⟩ := ha
  obtain ⟨_, _, g2, g3, g4, g5, _, _⟩ := hb
  simp only [tk] at h2 h3 h4 h5 g2 g3 g4 g5
  unfold param_Heavier_1.f
  rw [u64in (n := a.f1) (by omega) (by omega), u64in (n := a.f3) (by omega) (by omega), u64in (n := b.f1) (by omega) (by omega), u64in (n := b.f3) (by omega) (by omega), Less_is k (by omega) (by omega) (by omega) (by omega) (by omega) (by omega) (by omega) (by omega) hk]
  simp only [Option.bind_some]
  congr 1
  rw [Bool.eq_iff_iff]
  simp only [decide_eq_true_eq]
  exact ⟨fun h => h.2.2, fun h => ⟨by omega, by omega, h⟩⟩
/-- Is a task heavier than another one? Both must be tasks. -/
def heavyB (a b : S28) : Bool := if taskB a = true ∧ taskB b = true then (if b.f1 * a.f3 < a.f1 * b.f3 then true else if a.f1 * b.f3 < b.f1 * a.f3 then false else decide (a.f0 < b.f0)) else false
theorem heavyB_1 {a b : S28} (h : taskB a = false) : heavyB a b = false := by unfold heavyB; rw [h]; exact if_neg (fun q => Bool.noConfusion q.1)
theorem heavyB_2 {a b : S28} (h : taskB b = false) : heavyB a b = false := by unfold heavyB; rw [h]; exact if_neg (fun q => Bool.noConfusion q.2)
theorem heavyB_3 {a b : S28} (h : taskB a = true) (h2 : taskB b = true) : heavyB a b = (if b.f1 * a.f3 < a.f1 * b.f3 then true else if a.f1 * b.f3 < b.f1 * a.f3 then false else decide (a.f0 < b.f0)) := by unfold heavyB; rw [h, h2]; exact if_pos ⟨rfl, rfl⟩
theorem Heavier_is (a b : S28) (k : Nat) (hk : 6 ≤ k) : param_Heavier.f k a.f0 a.f1 a.f2 a.f3 a.f4 b.f0 b.f1 b.f2 b.f3 b.f4 = some (heavyB a b) := by
  unfold param_Heavier.f
  obtain ⟨k, rfl⟩ := some_k (show 0 < k by omega)
  rw [check_eq a]
  simp only [Option.bind_some, param_Heavier.j0]
  cases ha : taskB a with
  | false => rw [heavyB_1 ha]; rfl
  | true =>
    rw [check_eq b]
    cases hb : taskB b with
    | false => rw [heavyB_2 hb]; rfl
    | true =>
      rw [heavyB_3 ha hb]
      simp only [Option.bind_some, Bool.not_true, Bool.false_eq_true, if_false, if_true]
      rw [less_is k ((taskB_ok b).1 hb) ((taskB_ok a).1 ha) (by omega), less_is k ((taskB_ok a).1 ha) ((taskB_ok b).1 hb) (by omega)]
      simp only [Option.bind_some, decide_eq_true_eq]
      split
      · rfl
      · split <;> rfl
/-- Tasks by numbers. -/
def MadeP (r : List S28) : Prop := ∀ i (h : i < r.length), (r[i]).f0 = (i : Int) ∧ 1 ≤ (r[i]).f1 ∧ (r[i]).f1 ≤ (r[i]).f2 ∧ (r[i]).f2 ≤ (r[i]).f3 ∧ (r[i]).f3 ≤ 24 ∧ (r[i]).f4 = 1
theorem mod_rng (a : Int) {m : Int} (h : 1 ≤ m) (hm : m ≤ 24) : 1 ≤ wrap64 (1 + Int.tmod (wrap64 (Int.tmod a m + m)) m) ∧ wrap64 (1 + Int.tmod (wrap64 (Int.tmod a m + m)) m) ≤ m := by
  have h1 : -m < Int.tmod a m ∧ Int.tmod a m < m := by
    rcases Int.le_total 0 a with ha | ha
    · have h2 := Int.tmod_lt_of_pos a (show 0 < m by omega); have h3 := Int.tmod_nonneg m ha; omega
    · have h2 := Int.tmod_lt_of_pos (-a) (show 0 < m by omega); have h3 := Int.tmod_nonneg m (show 0 ≤ -a by omega)
      rw [Int.neg_tmod] at h2 h3; omega
  rw [w64 (n := Int.tmod a m + m) (by omega) (by omega)]
  have h4 := Int.tmod_lt_of_pos (Int.tmod a m + m) (show 0 < m by omega); have h5 := Int.tmod_nonneg m (show 0 ≤ Int.tmod a m + m by omega)
  rw [w64 (by omega) (by omega)]; omega
theorem made_loop (l : List S22) (d : Nat) : ∀ (k i : Nat) (r : List S28), i + d = min l.length 16 → d < k → r.length = i → MadeP r →
    ∃ r', horariumlaw09_made.l0 k l r (i : Int) = some r' ∧ r'.length = min l.length 16 ∧ MadeP r' := by
  induction d with
  | zero =>
    intro k i r hd hk hr hm
    obtain ⟨k, rfl⟩ := some_k hk
    refine ⟨r, ?_, by omega, hm⟩
    simp only [horariumlaw09_made.l0]
    by_cases h : (i : Int) < (l.length : Int)
    · rw [if_pos h, if_neg (by omega)]
    · rw [if_neg h]
  | succ d ih =>
    intro k i r hd hk hr hm
    obtain ⟨k, rfl⟩ := some_k (show 0 < k by omega)
    simp only [horariumlaw09_made.l0]
    rw [if_pos (by omega), if_pos (by omega), if_pos (by omega)]
    have hT := mod_rng (rd_T22 l (i : Int)).f2 (m := 24) (by omega) (by omega)
    generalize wrap64 (1 + Int.tmod (wrap64 (Int.tmod (rd_T22 l (i : Int)).f2 24 + 24)) 24) = T at hT ⊢
    rw [if_neg (by omega)]
    have hD := mod_rng (rd_T22 l (i : Int)).f1 (m := T) (by omega) (by omega)
    generalize wrap64 (1 + Int.tmod (wrap64 (Int.tmod (rd_T22 l (i : Int)).f1 T + T)) T) = D at hD ⊢
    rw [if_neg (by omega), if_pos (by omega)]
    have hC := mod_rng (rd_T22 l (i : Int)).f0 (m := D) (by omega) (by omega)
    generalize wrap64 (1 + Int.tmod (wrap64 (Int.tmod (rd_T22 l (i : Int)).f0 D + D)) D) = C at hC ⊢
    rw [w64 (n := (i : Int) + 1) (by omega) (by omega)]
    have e : ((i : Int) + 1) = ((i + 1 : Nat) : Int) := by omega
    rw [e]
    refine ih k (i + 1) _ (by omega) (by omega) (by simp [hr]) ?_
    intro j hj
    by_cases h : j < r.length
    · rw [List.getElem_append_left h]; exact hm j h
    · have hj2 : j = r.length := by simp at hj; omega
      subst hj2
      rw [List.getElem_append_right (by omega)]
      simp only [Nat.sub_self, List.getElem_cons_zero]
      exact ⟨by omega, by omega, by omega, by omega, by omega, trivial⟩
theorem made_is (l : List S22) (k : Nat) (hk : 16 < k) : ∃ r, horariumlaw09_made.f k l = some r ∧ r.length = min l.length 16 ∧ MadeP r := by
  unfold horariumlaw09_made.f
  exact made_loop l (min l.length 16) k 0 [] (by omega) (by omega) rfl (fun i h => by simp at h)
theorem MadeP.okL {r : List S28} (h : MadeP r) (hl : r.length ≤ 16) : okL r := by
  refine ⟨hl, fun s hs => ?_⟩
  obtain ⟨i, hi, rfl⟩ := List.getElem_of_mem hs
  have := h i hi
  unfold Hm.Tk.ok tk
  simp only
  omega
theorem rd_at {r : List S28} {i : Nat} (hi : i < r.length) : rd_T28 r (i : Int) = r[i] := by
  simp [rd_T28, hi]
theorem awake_is : ∀ k, 40 ≤ k → horariumlaw09_awake.f k = some true := by
  have h : horariumlaw09_awake.f 40 = some true := by decide +kernel
  intro k hk
  exact at_rounds (horariumlaw09_awake.mono) hk h
theorem ttwo_C (W : World) (s t : S22) : Kd.C k22 (W.alloc (.cells #[.int .i64 s.f0, .int .i64 s.f1, .int .i64 s.f2, .int .i64 t.f0, .int .i64 t.f1, .int .i64 t.f2] 22)) (some ⟨W.heap.size, 0, none⟩) 2 [s, t] := by
  refine ⟨rfl, by omega, fun _ => ⟨⟨W.heap.size, 0, none⟩, rfl, fun j p hj => ?_⟩⟩
  obtain ⟨hj1, rfl⟩ := List.getElem?_eq_some_iff.1 hj
  have e : ∀ q, (⟨W.heap.size, 0, none⟩ : Addr).add q = ⟨W.heap.size, q, none⟩ := fun q => by unfold Addr.add; split <;> simp_all
  have hb := heap_alloc_new W (.cells #[.int .i64 s.f0, .int .i64 s.f1, .int .i64 s.f2, .int .i64 t.f0, .int .i64 t.f1, .int .i64 t.f2] 22)
  match j, hj1 with
  | 0, _ =>
    refine ⟨[.int .i64 s.f0, .int .i64 s.f1, .int .i64 s.f2], rfl, k22_mk _ _, fun i u hu => ?_⟩
    rw [e, blk_cell hb]
    match i, hu with
    | 0, hu => exact hu
    | 1, hu => exact hu
    | 2, hu => exact hu
    | (i + 3), hu => simp at hu
  | 1, _ =>
    refine ⟨[.int .i64 t.f0, .int .i64 t.f1, .int .i64 t.f2], rfl, k22_mk _ _, fun i u hu => ?_⟩
    rw [e, blk_cell hb]
    match i, hu with
    | 0, hu => exact hu
    | 1, hu => exact hu
    | 2, hu => exact hu
    | (i + 3), hu => simp at hu
  | (j + 2), h => exact absurd h (by simp)
def parH.T12 : Bool × List (List Nat × List Nat) := (true, [([], []), ([], []), ([0, 1], [0, 1]), ([], []), ([], []), ([3, 4, 2], [3, 4]), ([2, 5], [2, 5]), ([6, 5, 0, 1, 2, 3, 4, 5, 6], [6])])
def parH.B12 : List Nat := [0, 0, 3, 0, 0, 31, 63, 127]
theorem parH.tab12 : rtab .any (opsOf Try.f3 12) = parH.T12 := by kernel_rfl
theorem parH.bits12 : waitsOk parH.T12.2 parH.B12 = true := by kernel_rfl
def parH.T15 : Bool × List (List Nat × List Nat) := (true, [([], []), ([0], [0]), ([], []), ([2], [2]), ([1, 3], [1, 3]), ([4], [4]), ([5], [5]), ([6, 5], [5, 6]), ([5], [5]), ([8, 5], [5, 8]), ([7, 9, 5], [5, 7, 9]), ([5, 10], [5, 10]), ([11, 5], [11]), ([12], [12]), ([12], [12]), ([13, 14, 12, 12], [12, 13, 14]), ([12], [12]), ([16, 12], [12, 16]), ([12], [12]), ([18, 12], [12, 18]), ([17, 19, 12], [12, 17, 19]), ([15, 20, 12], [12, 15, 20]), ([12, 21], [12, 21])])
def parH.B15 : List Nat := [0, 1, 0, 4, 15, 31, 63, 127, 63, 319, 1023, 2047, 4095, 8191, 8191, 32767, 8191, 73727, 8191, 270335, 991231, 2097151, 4194303]
theorem parH.tab15 : rtab .any (opsOf Try.f3 15) = parH.T15 := by kernel_rfl
theorem parH.bits15 : waitsOk parH.T15.2 parH.B15 = true := by kernel_rfl
set_option maxHeartbeats 8000000 in
set_option maxRecDepth 100000 in
theorem parHeavier.calls (a0 a1 a2 b0 b1 b2 : Int) (w : World) : Calls Try.prog 3 #[.agg #[.int .i64 a0, .int .i64 a1, .int .i64 a2], .agg #[.int .i64 b0, .int .i64 b1, .int .i64 b2]] w fun e w' => e = .returned (.bool true) ∧ Below w.heap.size w w' := by
  obtain ⟨K, hK⟩ : ∃ K : Nat, 100 ≤ K := ⟨100, Nat.le_refl _⟩
  obtain ⟨r, hr, hl, hm⟩ := made_is [⟨a0, a1, a2⟩, ⟨b0, b1, b2⟩] K (by omega)
  have hl2 : r.length = 2 := by simpa using hl
  obtain ⟨x, y, rfl⟩ : ∃ x y, r = [x, y] := by
    match r, hl2 with
    | [x, y], _ => exact ⟨x, y, rfl⟩
  have HX := Lib.hid (hm 0 (by simp))
  have HY := Lib.hid (hm 1 (by simp))
  have HOX : Hid ((tk x).ok) := Lib.hid ((hm.okL (by simp)).2 x (by simp))
  have HOY : Hid ((tk y).ok) := Lib.hid ((hm.okL (by simp)).2 y (by simp))
  have hx := hm 0 (by simp)
  have hy := hm 1 (by simp)
  simp only [List.getElem_cons_zero, List.getElem_cons_succ] at hx hy
  have hw1 : wrap64 (x.f1 + 1) = x.f1 + 1 := w64 (by omega) (by omega)
  have hw2 : wrap64 (x.f2 + 1) = x.f2 + 1 := w64 (by omega) (by omega)
  have hw3 : wrap64 (x.f3 + 1) = x.f3 + 1 := w64 (by omega) (by omega)
  have HXV := Lib.hid hx
  have HYV := Lib.hid hy
  have HONE : Hid ((heavyB x y != heavyB y x) = true) := Lib.hid (by
    rw [heavyB_3 ((taskB_ok x).2 HOX.out) ((taskB_ok y).2 HOY.out), heavyB_3 ((taskB_ok y).2 HOY.out) ((taskB_ok x).2 HOX.out)]
    rcases Int.lt_trichotomy (y.f1 * x.f3) (x.f1 * y.f3) with h | h | h
    · rw [if_pos h, if_neg (by omega), if_pos h]; rfl
    · rw [if_neg (by omega), if_neg (by omega), if_neg (by omega), if_neg (by omega)]
      have g1 : x.f0 < y.f0 := by omega
      have g2 : ¬ y.f0 < x.f0 := by omega
      simp [g1, g2]
    · rw [if_neg (by omega), if_pos h, if_pos h]; rfl)
  have HXX : Hid (param_Heavier.f K x.f0 x.f1 x.f2 x.f3 x.f4 x.f0 x.f1 x.f2 x.f3 x.f4 = some false) := Lib.hid (by
    rw [Heavier_is x x K (by omega), heavyB_3 ((taskB_ok x).2 HOX.out) ((taskB_ok x).2 HOX.out), if_neg (by omega), if_neg (by omega)]; simp)
  have HCX : Hid (param_Check.f x.f0 x.f1 x.f2 x.f3 x.f4 = some true) := Lib.hid (by rw [check_eq x, (taskB_ok x).2 HOX.out])
  have HCM : Hid (param_Check.f x.f0 (x.f1 + 1) (x.f2 + 1) (x.f3 + 1) x.f4 = some true) := Lib.hid (by
    have hmore : (tk ⟨x.f0, x.f1 + 1, x.f2 + 1, x.f3 + 1, x.f4⟩).ok := by unfold Hm.Tk.ok tk; simp only; omega
    have hc := check_eq ⟨x.f0, x.f1 + 1, x.f2 + 1, x.f3 + 1, x.f4⟩
    rw [(taskB_ok _).2 hmore] at hc
    exact hc)
  have HHZ : Hid (y.f1 ≤ x.f3 → ¬ y.f1 = x.f1 → param_Heavier.f K x.f0 x.f1 x.f3 x.f3 x.f4 y.f0 y.f1 x.f3 x.f3 y.f4 = some (decide (x.f1 > y.f1))) := Lib.hid (fun c1 c2 => by
    have hs : (tk ⟨y.f0, y.f1, x.f3, x.f3, y.f4⟩).ok := by unfold Hm.Tk.ok tk; simp only; omega
    have hz : (tk ⟨x.f0, x.f1, x.f3, x.f3, x.f4⟩).ok := by unfold Hm.Tk.ok tk; simp only; omega
    have hh := Heavier_is ⟨x.f0, x.f1, x.f3, x.f3, x.f4⟩ ⟨y.f0, y.f1, x.f3, x.f3, y.f4⟩ K (by omega)
    simp only at hh
    rw [hh, heavyB_3 ((taskB_ok _).2 hz) ((taskB_ok _).2 hs)]
    simp only
    congr 1
    rcases Int.lt_trichotomy y.f1 x.f1 with h | h | h
    · have := Int.mul_lt_mul_of_pos_right h (show 0 < x.f3 by omega)
      rw [if_pos (by omega)]; simp [h]
    · exact absurd h c2
    · have := Int.mul_lt_mul_of_pos_right h (show 0 < x.f3 by omega)
      rw [if_neg (by omega), if_pos (by omega)]
      have : ¬ x.f1 > y.f1 := by omega
      simp [this])
  clear hx hy
  have HMD := Lib.hid hr
  have HAW := Lib.hid (awake_is K (by omega))
  have HKK := Lib.hid hK
  clear hr hl hl2 hm hK
  go_enter Try.func3, Try.ntmps3
  go_wp2_with fail
  obtain ⟨W, hW⟩ : ∃ W, (w.alloc (.cells #[.int .i64 a0, .int .i64 a1, .int .i64 a2] 22)).alloc (.cells #[.int .i64 b0, .int .i64 b1, .int .i64 b2] 22) = W := ⟨_, rfl⟩
  have HA : Hid (W.heap[w.heap.size]? = some (.cells #[.int .i64 a0, .int .i64 a1, .int .i64 a2] 22 (0, 0))) := by rw [← hW]; exact blk_alloc (heap_alloc_new w _) _
  have HBB : Hid (W.heap[w.heap.size + 1]? = some (.cells #[.int .i64 b0, .int .i64 b1, .int .i64 b2] 22 (0, 0))) := by rw [← hW]; have := heap_alloc_new (w.alloc (.cells #[.int .i64 a0, .int .i64 a1, .int .i64 a2] 22)) (.cells #[.int .i64 b0, .int .i64 b1, .int .i64 b2] 22); simp only [World.size_alloc] at this; exact this
  have HB : Hid (Below w.heap.size w W) := by rw [← hW]; exact below_alloc (below_alloc (Below.refl _ _) _) _
  rw [hW]
  clear hW
  obtain ⟨pa, hpa⟩ : ∃ b, w.heap.size = b := ⟨_, rfl⟩
  obtain ⟨pb, hpb⟩ : ∃ b, pa + 1 = b := ⟨_, rfl⟩
  have HPA := Lib.hid hpa
  rw [hpa] at HA HBB ⊢
  rw [hpb] at HBB ⊢
  clear hpa hpb
  go_wp2_with (first
    | (go_at_call 11; refine (horariumlaw09_awake.calls K true _ HAW.out).mono ?_; rintro e w1 ⟨rfl, q1⟩; replace HA := Lib.hid (blk_below HA.out q1); replace HBB := Lib.hid (blk_below HBB.out q1); replace HB := Lib.hid (below_step HB.out q1); clear q1; have ca0 := (blk_cell HA.out 0).trans rfl; have ca1 := (blk_cell HA.out 1).trans rfl; have ca2 := (blk_cell HA.out 2).trans rfl; have cb0 := (blk_cell HBB.out 0).trans rfl; have cb1 := (blk_cell HBB.out 1).trans rfl; have cb2 := (blk_cell HBB.out 2).trans rfl)
    | (go_at_call 12; refine (horariumlaw09_made.calls K (some ⟨w1.heap.size, 0, none⟩) 2 [⟨a0, a1, a2⟩, ⟨b0, b1, b2⟩] [x, y] _ (ttwo_C w1 ⟨a0, a1, a2⟩ ⟨b0, b1, b2⟩) (Nat.le_refl _) HMD.out).mono ?_; clear ca0 ca1 ca2 cb0 cb1 cb2; rintro e w2 ⟨v0, rfl, q0, q1⟩; obtain ⟨A1, c1, rfl⟩ := Kd.R_slice q0; have HC := Lib.hid (Kd.R_reads' q0).2.2; replace HB := Lib.hid (below_step (below_alloc HB.out _) q1); clear q1; obtain ⟨ad, e0, x0, x1, x2, x3, x4⟩ := at_T28 HC.out 0 (by omega) (by simp); obtain ⟨ad', e1, y0, y1, y2, y3, y4⟩ := at_T28 HC.out 1 (by omega) (by simp); cases e0; cases e1; obtain ⟨bg, rfl⟩ := Kd.R_head q0; clear q0; replace x0 : w2.cell? ⟨bg, 0, none⟩ = some (.int .i64 x.f0) := x0; replace y0 : w2.cell? ⟨bg, 5, none⟩ = some (.int .i64 y.f0) := y0; replace x1 : w2.cell? ⟨bg, 1, none⟩ = some (.int .i64 x.f1) := x1; replace y1 : w2.cell? ⟨bg, 6, none⟩ = some (.int .i64 y.f1) := y1; replace x2 : w2.cell? ⟨bg, 2, none⟩ = some (.int .i64 x.f2) := x2; replace y2 : w2.cell? ⟨bg, 7, none⟩ = some (.int .i64 y.f2) := y2; replace x3 : w2.cell? ⟨bg, 3, none⟩ = some (.int .i64 x.f3) := x3; replace y3 : w2.cell? ⟨bg, 8, none⟩ = some (.int .i64 y.f3) := y3; replace x4 : w2.cell? ⟨bg, 4, none⟩ = some (.int .i64 x.f4) := x4; replace y4 : w2.cell? ⟨bg, 9, none⟩ = some (.int .i64 y.f4) := y4; have hlt := World.block_lt_of_cell? w2 _ x0; simp only at hlt; have m1 : ¬ bg = w2.heap.size := (by omega); have m2 : ¬ w2.heap.size = bg := (by omega)))
  clear x0 x1 x2 x3 x4 y0 y1 y2 y3 y4 hlt m1 m2
  obtain ⟨W6, hW6⟩ : ∃ W, (((w2.alloc (.cells #[.int .i64 x.f0, .int .i64 x.f1, .int .i64 x.f2, .int .i64 x.f3, .int .i64 x.f4] 28)).alloc (.cells #[.int .i64 y.f0, .int .i64 y.f1, .int .i64 y.f2, .int .i64 y.f3, .int .i64 y.f4] 28)).alloc (.cells #[.int .i64 x.f0, .int .i64 (x.f1 + 1), .int .i64 (x.f2 + 1), .int .i64 (x.f3 + 1), .int .i64 x.f4] 28)).alloc (.cells #[.int .i64 y.f0, .int .i64 y.f1, .int .i64 x.f3, .int .i64 x.f3, .int .i64 y.f4] 28) = W := ⟨_, rfl⟩
  have H7 : Hid (W6.heap[w2.heap.size]? = some (.cells #[.int .i64 x.f0, .int .i64 x.f1, .int .i64 x.f2, .int .i64 x.f3, .int .i64 x.f4] 28 (0, 0))) := by rw [← hW6]; exact blk_alloc (blk_alloc (blk_alloc (heap_alloc_new w2 _) _) _) _
  have H8 : Hid (W6.heap[w2.heap.size + 1]? = some (.cells #[.int .i64 y.f0, .int .i64 y.f1, .int .i64 y.f2, .int .i64 y.f3, .int .i64 y.f4] 28 (0, 0))) := by rw [← hW6]; have := blk_alloc (blk_alloc (heap_alloc_new (w2.alloc (.cells #[.int .i64 x.f0, .int .i64 x.f1, .int .i64 x.f2, .int .i64 x.f3, .int .i64 x.f4] 28)) (.cells #[.int .i64 y.f0, .int .i64 y.f1, .int .i64 y.f2, .int .i64 y.f3, .int .i64 y.f4] 28)) (.cells #[.int .i64 x.f0, .int .i64 (x.f1 + 1), .int .i64 (x.f2 + 1), .int .i64 (x.f3 + 1), .int .i64 x.f4] 28)) (.cells #[.int .i64 y.f0, .int .i64 y.f1, .int .i64 x.f3, .int .i64 x.f3, .int .i64 y.f4] 28); simp only [World.size_alloc] at this; exact this
  have H9 : Hid (W6.heap[w2.heap.size + 1 + 1]? = some (.cells #[.int .i64 x.f0, .int .i64 (x.f1 + 1), .int .i64 (x.f2 + 1), .int .i64 (x.f3 + 1), .int .i64 x.f4] 28 (0, 0))) := by rw [← hW6]; have := blk_alloc (heap_alloc_new ((w2.alloc (.cells #[.int .i64 x.f0, .int .i64 x.f1, .int .i64 x.f2, .int .i64 x.f3, .int .i64 x.f4] 28)).alloc (.cells #[.int .i64 y.f0, .int .i64 y.f1, .int .i64 y.f2, .int .i64 y.f3, .int .i64 y.f4] 28)) (.cells #[.int .i64 x.f0, .int .i64 (x.f1 + 1), .int .i64 (x.f2 + 1), .int .i64 (x.f3 + 1), .int .i64 x.f4] 28)) (.cells #[.int .i64 y.f0, .int .i64 y.f1, .int .i64 x.f3, .int .i64 x.f3, .int .i64 y.f4] 28); simp only [World.size_alloc] at this; exact this
  have H10 : Hid (W6.heap[w2.heap.size + 1 + 1 + 1]? = some (.cells #[.int .i64 y.f0, .int .i64 y.f1, .int .i64 x.f3, .int .i64 x.f3, .int .i64 y.f4] 28 (0, 0))) := by rw [← hW6]; have := heap_alloc_new (((w2.alloc (.cells #[.int .i64 x.f0, .int .i64 x.f1, .int .i64 x.f2, .int .i64 x.f3, .int .i64 x.f4] 28)).alloc (.cells #[.int .i64 y.f0, .int .i64 y.f1, .int .i64 y.f2, .int .i64 y.f3, .int .i64 y.f4] 28)).alloc (.cells #[.int .i64 x.f0, .int .i64 (x.f1 + 1), .int .i64 (x.f2 + 1), .int .i64 (x.f3 + 1), .int .i64 x.f4] 28)) (.cells #[.int .i64 y.f0, .int .i64 y.f1, .int .i64 x.f3, .int .i64 x.f3, .int .i64 y.f4] 28); simp only [World.size_alloc] at this; exact this
  replace HB : Hid (Below w.heap.size w W6) := by rw [← hW6]; exact below_alloc (below_alloc (below_alloc (below_alloc HB.out _) _) _) _
  rw [hW6]
  clear hW6
  obtain ⟨p7, hp7⟩ : ∃ b, w2.heap.size = b := ⟨_, rfl⟩
  obtain ⟨p8, hp8⟩ : ∃ b, p7 + 1 = b := ⟨_, rfl⟩
  obtain ⟨p9, hp9⟩ : ∃ b, p8 + 1 = b := ⟨_, rfl⟩
  obtain ⟨p10, hp10⟩ : ∃ b, p9 + 1 = b := ⟨_, rfl⟩
  rw [hp7] at H7 H8 H9 H10 ⊢
  rw [hp8] at H8 H9 H10 ⊢
  rw [hp9] at H9 H10 ⊢
  rw [hp10] at H10 ⊢
  clear hp7 hp8 hp9 hp10
  replace H7 := Lib.hid (blk_drew H7.out)
  replace H8 := Lib.hid (blk_drew H8.out)
  replace H9 := Lib.hid (blk_drew H9.out)
  replace H10 := Lib.hid (blk_drew H10.out)
  replace HB := Lib.hid (below_drew1 HB.out)
  refine start_ (n := 8) (S := fun w' => w'.cell? ⟨p7, 0, none⟩ = some (.int .i64 x.f0) ∧ w'.cell? ⟨p7, 1, none⟩ = some (.int .i64 x.f1) ∧ w'.cell? ⟨p7, 2, none⟩ = some (.int .i64 x.f2) ∧ w'.cell? ⟨p7, 3, none⟩ = some (.int .i64 x.f3) ∧ w'.cell? ⟨p7, 4, none⟩ = some (.int .i64 x.f4) ∧ w'.cell? ⟨p8, 0, none⟩ = some (.int .i64 y.f0) ∧ w'.cell? ⟨p8, 1, none⟩ = some (.int .i64 y.f1) ∧ w'.cell? ⟨p8, 2, none⟩ = some (.int .i64 y.f2) ∧ w'.cell? ⟨p8, 3, none⟩ = some (.int .i64 y.f3) ∧ w'.cell? ⟨p8, 4, none⟩ = some (.int .i64 y.f4)) (ds := []) #[false, false, false, false, false, false, false, false] (by kernel_rfl) rfl rfl ⟨(blk_cell H7.out 0).trans rfl, (blk_cell H7.out 1).trans rfl, (blk_cell H7.out 2).trans rfl, (blk_cell H7.out 3).trans rfl, (blk_cell H7.out 4).trans rfl, (blk_cell H8.out 0).trans rfl, (blk_cell H8.out 1).trans rfl, (blk_cell H8.out 2).trans rfl, (blk_cell H8.out 3).trans rfl, (blk_cell H8.out 4).trans rfl⟩ (fun hHeld => ?_); refine with_tabW parH.tab12 parH.bits12 (fun HT_ HW_ => ?_)
  generalize W6.drew = w5 at H7 H8 H9 H10 HB hHeld ⊢
  refine take_ (i := 0) (N := some 44) (v := ?_) (a' := ?_) #[true, false, false, false, false, false, false, false] rfl rfl (take_ofW HT_.out HW_.out (by kernel_rfl)) (fun _ _ _ h => h) (Or.inl ⟨by rfl, ?_⟩) hHeld ?_ ?_
  rotate_left
  · rintro w' ⟨s0, s1, s2, s3, s4, s5, s6, s7, s8, s9⟩
    go_simp
    with_reducible rfl
  rotate_left
  · simp only [Act.put, List.setIfInBounds_toArray, List.set_cons_zero, List.set_cons_succ, i64_w, i32_w]
    rfl
  refine take_ (i := 1) (N := some 45) (v := ?_) (a' := ?_) #[true, true, false, false, false, false, false, false] rfl rfl (take_ofW HT_.out HW_.out (by kernel_rfl)) (fun _ _ _ h => h) (Or.inl ⟨by rfl, ?_⟩) hHeld ?_ ?_
  rotate_left
  · rintro w' ⟨s0, s1, s2, s3, s4, s5, s6, s7, s8, s9⟩
    go_simp
    with_reducible rfl
  rotate_left
  · simp only [Act.put, List.setIfInBounds_toArray, List.set_cons_zero, List.set_cons_succ, i64_w, i32_w]
    rfl
  refine take_ (i := 3) (N := some 47) (v := ?_) (a' := ?_) #[true, true, false, true, false, false, false, false] rfl rfl (take_ofW HT_.out HW_.out (by kernel_rfl)) (fun _ _ _ h => h) (Or.inl ⟨by rfl, ?_⟩) hHeld ?_ ?_
  rotate_left
  · rintro w' ⟨s0, s1, s2, s3, s4, s5, s6, s7, s8, s9⟩
    go_simp
    with_reducible rfl
  rotate_left
  · simp only [Act.put, List.setIfInBounds_toArray, List.set_cons_zero, List.set_cons_succ, i64_w, i32_w]
    rfl
  refine take_ (i := 4) (N := some 48) (v := ?_) (a' := ?_) #[true, true, false, true, true, false, false, false] rfl rfl (take_ofW HT_.out HW_.out (by kernel_rfl)) (fun _ _ _ h => h) (Or.inl ⟨by rfl, ?_⟩) hHeld ?_ ?_
  rotate_left
  · rintro w' ⟨s0, s1, s2, s3, s4, s5, s6, s7, s8, s9⟩
    go_simp
    with_reducible rfl
  rotate_left
  · simp only [Act.put, List.setIfInBounds_toArray, List.set_cons_zero, List.set_cons_succ, i64_w, i32_w]
    rfl
  refine one_ (i := 2) (N := some 46) #[true, true, true, true, true, false, false, false] rfl rfl (one_of HT_.out (by kernel_rfl)) (by decide) (fun K_ hK => ?_)
  refine goes_ Try.func13 (by kernel_rfl) rfl #[.agg #[.int .i64 x.f0, .int .i64 x.f1, .int .i64 x.f2, .int .i64 x.f3, .int .i64 x.f4], .agg #[.int .i64 y.f0, .int .i64 y.f1, .int .i64 y.f2, .int .i64 y.f3, .int .i64 y.f4]] (by rfl) rfl rfl (by (try simp only [List.map_toArray, List.map_cons, List.map_nil]); first | done | rfl) ?_
  refine (param_Heavier.calls K x.f0 x.f1 x.f2 x.f3 x.f4 y.f0 y.f1 y.f2 y.f3 y.f4 (heavyB x y) w5 (Heavier_is x y K (by have := HKK.out; omega))).mono ?_
  rintro e w6 ⟨rfl, q1⟩
  refine ⟨_, rfl, ?_⟩
  replace H7 := Lib.hid (blk_below H7.out q1)
  replace H8 := Lib.hid (blk_below H8.out q1)
  replace H9 := Lib.hid (blk_below H9.out q1)
  replace H10 := Lib.hid (blk_below H10.out q1)
  replace HB := Lib.hid (below_step HB.out q1)
  clear q1
  refine hK.out _ _ ⟨(blk_cell H7.out 0).trans rfl, (blk_cell H7.out 1).trans rfl, (blk_cell H7.out 2).trans rfl, (blk_cell H7.out 3).trans rfl, (blk_cell H7.out 4).trans rfl, (blk_cell H8.out 0).trans rfl, (blk_cell H8.out 1).trans rfl, (blk_cell H8.out 2).trans rfl, (blk_cell H8.out 3).trans rfl, (blk_cell H8.out 4).trans rfl⟩ (fun hHeld => ?_)
  clear hK K_
  refine norm_ (a' := ?_) ?_ ?_
  rotate_left
  · show Act.put _ (some 46) _ = _
    simp only [Act.put, List.setIfInBounds_toArray, List.set_cons_zero, List.set_cons_succ, i64_w, i32_w]
    rfl
  refine one_ (i := 5) (N := some 49) #[true, true, true, true, true, true, false, false] rfl rfl (one_of HT_.out (by kernel_rfl)) (by decide) (fun K_ hK => ?_)
  refine goes_ Try.func13 (by kernel_rfl) rfl #[.agg #[.int .i64 y.f0, .int .i64 y.f1, .int .i64 y.f2, .int .i64 y.f3, .int .i64 y.f4], .agg #[.int .i64 x.f0, .int .i64 x.f1, .int .i64 x.f2, .int .i64 x.f3, .int .i64 x.f4]] (by rfl) rfl rfl (by (try simp only [List.map_toArray, List.map_cons, List.map_nil]); first | done | rfl) ?_
  refine (param_Heavier.calls K y.f0 y.f1 y.f2 y.f3 y.f4 x.f0 x.f1 x.f2 x.f3 x.f4 (heavyB y x) w6 (Heavier_is y x K (by have := HKK.out; omega))).mono ?_
  rintro e w7 ⟨rfl, q1⟩
  refine ⟨_, rfl, ?_⟩
  replace H7 := Lib.hid (blk_below H7.out q1)
  replace H8 := Lib.hid (blk_below H8.out q1)
  replace H9 := Lib.hid (blk_below H9.out q1)
  replace H10 := Lib.hid (blk_below H10.out q1)
  replace HB := Lib.hid (below_step HB.out q1)
  clear q1
  refine hK.out _ _ ⟨(blk_cell H7.out 0).trans rfl, (blk_cell H7.out 1).trans rfl, (blk_cell H7.out 2).trans rfl, (blk_cell H7.out 3).trans rfl, (blk_cell H7.out 4).trans rfl, (blk_cell H8.out 0).trans rfl, (blk_cell H8.out 1).trans rfl, (blk_cell H8.out 2).trans rfl, (blk_cell H8.out 3).trans rfl, (blk_cell H8.out 4).trans rfl⟩ (fun hHeld => ?_)
  clear hK K_
  refine norm_ (a' := ?_) ?_ ?_
  rotate_left
  · show Act.put _ (some 49) _ = _
    simp only [Act.put, List.setIfInBounds_toArray, List.set_cons_zero, List.set_cons_succ, i64_w, i32_w]
    rfl
  refine pure_ (i := 6) (N := some 50) (v := ?_) (a' := ?_) #[true, true, true, true, true, true, true, false] rfl rfl (any_of HT_.out (by kernel_rfl)) (fun _ _ _ h => h) (Or.inl ⟨by rfl, ?_⟩) ?_ ?_
  rotate_left
  · intro w'
    go_simp
    with_reducible rfl
  rotate_left
  · simp only [Act.put, List.setIfInBounds_toArray, List.set_cons_zero, List.set_cons_succ, i64_w, i32_w]
    rfl
  refine pure_ (i := 7) (N := some 11) (v := ?_) (a' := ?_) #[true, true, true, true, true, true, true, true] rfl rfl (any_of HT_.out (by kernel_rfl)) (fun _ _ _ h => h) (Or.inl ⟨by rfl, ?_⟩) ?_ ?_
  rotate_left
  · intro w'
    go_simp
    with_reducible rfl
  rotate_left
  · simp only [Act.put, List.setIfInBounds_toArray, List.set_cons_zero, List.set_cons_succ, i64_w, i32_w]
    rfl
  refine done_ (done_of HT_.out (by kernel_rfl)) ?_
  clear hHeld
  have hone : (heavyB x y == heavyB y x) = false := by
    have h := HONE.out
    simpa [bne] using h
  have l0 := (blk_cell H7.out 0).trans rfl
  have l1 := (blk_cell H7.out 1).trans rfl
  have l2 := (blk_cell H7.out 2).trans rfl
  have l3 := (blk_cell H7.out 3).trans rfl
  have l4 := (blk_cell H7.out 4).trans rfl
  try rw [hone]
  try simp only [Bool.not_false]
  go_wp2
  clear hone l0 l1 l2 l3 l4
  have H12 := Lib.hid (heap_alloc_new w7 (.cells #[.int .i64 x.f0, .int .i64 x.f1, .int .i64 x.f3, .int .i64 x.f3, .int .i64 x.f4] 28))
  replace H7 := Lib.hid (blk_alloc H7.out (.cells #[.int .i64 x.f0, .int .i64 x.f1, .int .i64 x.f3, .int .i64 x.f3, .int .i64 x.f4] 28))
  replace H8 := Lib.hid (blk_alloc H8.out (.cells #[.int .i64 x.f0, .int .i64 x.f1, .int .i64 x.f3, .int .i64 x.f3, .int .i64 x.f4] 28))
  replace H9 := Lib.hid (blk_alloc H9.out (.cells #[.int .i64 x.f0, .int .i64 x.f1, .int .i64 x.f3, .int .i64 x.f3, .int .i64 x.f4] 28))
  replace H10 := Lib.hid (blk_alloc H10.out (.cells #[.int .i64 x.f0, .int .i64 x.f1, .int .i64 x.f3, .int .i64 x.f3, .int .i64 x.f4] 28))
  replace HB := Lib.hid (below_alloc HB.out (.cells #[.int .i64 x.f0, .int .i64 x.f1, .int .i64 x.f3, .int .i64 x.f3, .int .i64 x.f4] 28))
  obtain ⟨W8, hW8⟩ : ∃ W, w7.alloc (.cells #[.int .i64 x.f0, .int .i64 x.f1, .int .i64 x.f3, .int .i64 x.f3, .int .i64 x.f4] 28) = W := ⟨_, rfl⟩
  obtain ⟨p12, hp12⟩ : ∃ b, w7.heap.size = b := ⟨_, rfl⟩
  rw [hW8] at H7 H8 H9 H10 H12 HB ⊢
  rw [hp12] at H12 ⊢
  clear hW8 hp12
  replace H7 := Lib.hid (blk_drew H7.out)
  replace H8 := Lib.hid (blk_drew H8.out)
  replace H9 := Lib.hid (blk_drew H9.out)
  replace H10 := Lib.hid (blk_drew H10.out)
  replace H12 := Lib.hid (blk_drew H12.out)
  replace HB := Lib.hid (below_drew1 HB.out)
  by_cases c1 : y.f1 ≤ x.f3
  · have c1b : decide (y.f1 ≤ x.f3) = true := decide_eq_true c1
    by_cases c2 : y.f1 = x.f1
    · have c2a : (y.f1 == x.f1) = true := by simp [c2]
      have c2b : (y.f1 != x.f1) = false := by simp [c2]
      clear c2
      refine start_ (n := 23) (S := fun w' => w'.cell? ⟨p10, 0, none⟩ = some (.int .i64 y.f0) ∧ w'.cell? ⟨p10, 1, none⟩ = some (.int .i64 y.f1) ∧ w'.cell? ⟨p10, 2, none⟩ = some (.int .i64 x.f3) ∧ w'.cell? ⟨p10, 3, none⟩ = some (.int .i64 x.f3) ∧ w'.cell? ⟨p10, 4, none⟩ = some (.int .i64 y.f4) ∧ w'.cell? ⟨p12, 0, none⟩ = some (.int .i64 x.f0) ∧ w'.cell? ⟨p12, 1, none⟩ = some (.int .i64 x.f1) ∧ w'.cell? ⟨p12, 2, none⟩ = some (.int .i64 x.f3) ∧ w'.cell? ⟨p12, 3, none⟩ = some (.int .i64 x.f3) ∧ w'.cell? ⟨p12, 4, none⟩ = some (.int .i64 x.f4)) (ds := []) (pre_ 23 0) (by kernel_rfl) rfl rfl ⟨(blk_cell H10.out 0).trans rfl, (blk_cell H10.out 1).trans rfl, (blk_cell H10.out 2).trans rfl, (blk_cell H10.out 3).trans rfl, (blk_cell H10.out 4).trans rfl, (blk_cell H12.out 0).trans rfl, (blk_cell H12.out 1).trans rfl, (blk_cell H12.out 2).trans rfl, (blk_cell H12.out 3).trans rfl, (blk_cell H12.out 4).trans rfl⟩ (fun hHeld => ?_); refine with_tabW parH.tab15 parH.bits15 (fun HT_ HW_ => ?_)
      generalize W8.drew = w8 at H7 H8 H9 H10 H12 HB hHeld ⊢
      iterate 15 (first
        | (refine pureJ_ (v := undef) (a' := ?_) rfl rfl (any_of HT_.out (by kernel_rfl)) (fun _ _ _ h => h) (by (try simp only [Nat.reduceAdd]); first | done | rfl) (Or.inr ⟨by rfl, rfl⟩) ?_ ?_; rotate_left; (simp only [Act.put, List.setIfInBounds_toArray, List.set_cons_zero, List.set_cons_succ, i64_w, i32_w]; rfl))
        | (refine pureJ_ (v := ?_) (a' := ?_) rfl rfl (any_of HT_.out (by kernel_rfl)) (fun _ _ _ h => h) (by (try simp only [Nat.reduceAdd]); first | done | rfl) (Or.inl ⟨by rfl, ?_⟩) ?_ ?_; rotate_left; (intro w'; go_simp; with_reducible rfl); rotate_left; (simp only [Act.put, List.setIfInBounds_toArray, List.set_cons_zero, List.set_cons_succ, i64_w, i32_w]; rfl))
        | (refine takeJ_ (v := ?_) (a' := ?_) rfl rfl (take_ofW HT_.out HW_.out (by kernel_rfl)) (fun _ _ _ h => h) (by (try simp only [Nat.reduceAdd]); first | done | rfl) (Or.inl ⟨by rfl, ?_⟩) hHeld ?_ ?_; rotate_left; (rintro w' ⟨s0_, s1_, s2_, s3_, s4_, s5_, s6_, s7_, s8_, s9_⟩; go_simp; with_reducible rfl); rotate_left; (simp only [Act.put, List.setIfInBounds_toArray, List.set_cons_zero, List.set_cons_succ, i64_w, i32_w]; rfl)))
      refine pure_ (i := 16) (N := some 71) (v := undef) (a' := ?_) (ms_ 23 98303) rfl rfl (any_of HT_.out (by kernel_rfl)) (fun _ _ _ h => h) (Or.inr ⟨by rfl, rfl⟩) ?_ ?_; rotate_left; (simp only [Act.put, List.setIfInBounds_toArray, List.set_cons_zero, List.set_cons_succ, i64_w, i32_w]; rfl)
      refine pure_ (i := 17) (N := some 72) (v := undef) (a' := ?_) (ms_ 23 229375) rfl rfl (any_of HT_.out (by kernel_rfl)) (fun _ _ _ h => h) (Or.inr ⟨by rfl, rfl⟩) ?_ ?_; rotate_left; (simp only [Act.put, List.setIfInBounds_toArray, List.set_cons_zero, List.set_cons_succ, i64_w, i32_w]; rfl)
      refine pure_ (i := 18) (N := some 73) (v := undef) (a' := ?_) (ms_ 23 491519) rfl rfl (any_of HT_.out (by kernel_rfl)) (fun _ _ _ h => h) (Or.inr ⟨by rfl, rfl⟩) ?_ ?_; rotate_left; (simp only [Act.put, List.setIfInBounds_toArray, List.set_cons_zero, List.set_cons_succ, i64_w, i32_w]; rfl)
      refine pure_ (i := 19) (N := some 74) (v := undef) (a' := ?_) (ms_ 23 1015807) rfl rfl (any_of HT_.out (by kernel_rfl)) (fun _ _ _ h => h) (Or.inr ⟨by rfl, rfl⟩) ?_ ?_; rotate_left; (simp only [Act.put, List.setIfInBounds_toArray, List.set_cons_zero, List.set_cons_succ, i64_w, i32_w]; rfl)
      refine pure_ (i := 20) (N := some 75) (v := undef) (a' := ?_) (ms_ 23 2064383) rfl rfl (any_of HT_.out (by kernel_rfl)) (fun _ _ _ h => h) (Or.inr ⟨by rfl, rfl⟩) ?_ ?_; rotate_left; (simp only [Act.put, List.setIfInBounds_toArray, List.set_cons_zero, List.set_cons_succ, i64_w, i32_w]; rfl)
      refine one_ (i := 15) (N := some 70) (pre_ 23 21) rfl rfl (one_of HT_.out (by kernel_rfl)) (by decide) (fun K_ hK => ?_)
      refine off_ (by rfl) ?_
      refine hK.out _ _ ⟨(blk_cell H10.out 0).trans rfl, (blk_cell H10.out 1).trans rfl, (blk_cell H10.out 2).trans rfl, (blk_cell H10.out 3).trans rfl, (blk_cell H10.out 4).trans rfl, (blk_cell H12.out 0).trans rfl, (blk_cell H12.out 1).trans rfl, (blk_cell H12.out 2).trans rfl, (blk_cell H12.out 3).trans rfl, (blk_cell H12.out 4).trans rfl⟩ (fun hHeld => ?_)
      clear hK K_
      refine norm_ (a' := ?_) ?_ ?_
      rotate_left
      · show Act.put _ (some 70) _ = _
        simp only [Act.put, List.setIfInBounds_toArray, List.set_cons_zero, List.set_cons_succ, i64_w, i32_w]
        rfl
      iterate 2 (first
        | (refine pureJ_ (v := undef) (a' := ?_) rfl rfl (any_of HT_.out (by kernel_rfl)) (fun _ _ _ h => h) (by (try simp only [Nat.reduceAdd]); first | done | rfl) (Or.inr ⟨by rfl, rfl⟩) ?_ ?_; rotate_left; (simp only [Act.put, List.setIfInBounds_toArray, List.set_cons_zero, List.set_cons_succ, i64_w, i32_w]; rfl))
        | (refine pureJ_ (v := ?_) (a' := ?_) rfl rfl (any_of HT_.out (by kernel_rfl)) (fun _ _ _ h => h) (by (try simp only [Nat.reduceAdd]); first | done | rfl) (Or.inl ⟨by rfl, ?_⟩) ?_ ?_; rotate_left; (intro w'; go_simp; with_reducible rfl); rotate_left; (simp only [Act.put, List.setIfInBounds_toArray, List.set_cons_zero, List.set_cons_succ, i64_w, i32_w]; rfl))
        | (refine takeJ_ (v := ?_) (a' := ?_) rfl rfl (take_ofW HT_.out HW_.out (by kernel_rfl)) (fun _ _ _ h => h) (by (try simp only [Nat.reduceAdd]); first | done | rfl) (Or.inl ⟨by rfl, ?_⟩) hHeld ?_ ?_; rotate_left; (rintro w' ⟨s0_, s1_, s2_, s3_, s4_, s5_, s6_, s7_, s8_, s9_⟩; go_simp; with_reducible rfl); rotate_left; (simp only [Act.put, List.setIfInBounds_toArray, List.set_cons_zero, List.set_cons_succ, i64_w, i32_w]; rfl)))
      refine done_ (done_of HT_.out (by kernel_rfl)) ?_
      clear hHeld
      have l0 := (blk_cell H7.out 0).trans rfl
      have l1 := (blk_cell H7.out 1).trans rfl
      have l2 := (blk_cell H7.out 2).trans rfl
      have l3 := (blk_cell H7.out 3).trans rfl
      have l4 := (blk_cell H7.out 4).trans rfl
      go_wp2_with fail
      (go_at_call 14; refine (param_Check.calls x.f0 x.f1 x.f2 x.f3 x.f4 true _ HCX.out).mono ?_; rintro e w10 ⟨rfl, q1⟩; replace H7 := Lib.hid (blk_below H7.out q1); replace H9 := Lib.hid (blk_below H9.out q1); replace HB := Lib.hid (below_step HB.out q1); clear q1 l0 l1 l2 l3 l4; have l0 := (blk_cell H7.out 0).trans rfl; have l1 := (blk_cell H7.out 1).trans rfl; have l2 := (blk_cell H7.out 2).trans rfl; have l3 := (blk_cell H7.out 3).trans rfl; have l4 := (blk_cell H7.out 4).trans rfl; have k0 := (blk_cell H9.out 0).trans rfl; have k1 := (blk_cell H9.out 1).trans rfl; have k2 := (blk_cell H9.out 2).trans rfl; have k3 := (blk_cell H9.out 3).trans rfl; have k4 := (blk_cell H9.out 4).trans rfl)
      go_wp2_with fail
      (go_at_call 14; refine (param_Check.calls x.f0 (x.f1 + 1) (x.f2 + 1) (x.f3 + 1) x.f4 true _ HCM.out).mono ?_; rintro e w11 ⟨rfl, q1⟩; replace H7 := Lib.hid (blk_below H7.out q1); replace HB := Lib.hid (below_step HB.out q1); clear q1 l0 l1 l2 l3 l4 k0 k1 k2 k3 k4; have l0 := (blk_cell H7.out 0).trans rfl; have l1 := (blk_cell H7.out 1).trans rfl; have l2 := (blk_cell H7.out 2).trans rfl; have l3 := (blk_cell H7.out 3).trans rfl; have l4 := (blk_cell H7.out 4).trans rfl)
      go_wp2_with fail
      (go_at_call 13; refine (param_Heavier.calls K x.f0 x.f1 x.f2 x.f3 x.f4 x.f0 x.f1 x.f2 x.f3 x.f4 false _ HXX.out).mono ?_; rintro e w12 ⟨rfl, q1⟩; replace HB := Lib.hid (below_step HB.out q1); clear q1 l0 l1 l2 l3 l4)
      go_wp2_with fail
      go_ret
      exact ⟨rfl, HB.out⟩
    · have c2a : (y.f1 == x.f1) = false := by simp [c2]
      have c2b : (y.f1 != x.f1) = true := by simp [c2]
      replace HHZ := Lib.hid (HHZ.out c1 c2)
      refine start_ (n := 23) (S := fun w' => w'.cell? ⟨p10, 0, none⟩ = some (.int .i64 y.f0) ∧ w'.cell? ⟨p10, 1, none⟩ = some (.int .i64 y.f1) ∧ w'.cell? ⟨p10, 2, none⟩ = some (.int .i64 x.f3) ∧ w'.cell? ⟨p10, 3, none⟩ = some (.int .i64 x.f3) ∧ w'.cell? ⟨p10, 4, none⟩ = some (.int .i64 y.f4) ∧ w'.cell? ⟨p12, 0, none⟩ = some (.int .i64 x.f0) ∧ w'.cell? ⟨p12, 1, none⟩ = some (.int .i64 x.f1) ∧ w'.cell? ⟨p12, 2, none⟩ = some (.int .i64 x.f3) ∧ w'.cell? ⟨p12, 3, none⟩ = some (.int .i64 x.f3) ∧ w'.cell? ⟨p12, 4, none⟩ = some (.int .i64 x.f4)) (ds := []) (pre_ 23 0) (by kernel_rfl) rfl rfl ⟨(blk_cell H10.out 0).trans rfl, (blk_cell H10.out 1).trans rfl, (blk_cell H10.out 2).trans rfl, (blk_cell H10.out 3).trans rfl, (blk_cell H10.out 4).trans rfl, (blk_cell H12.out 0).trans rfl, (blk_cell H12.out 1).trans rfl, (blk_cell H12.out 2).trans rfl, (blk_cell H12.out 3).trans rfl, (blk_cell H12.out 4).trans rfl⟩ (fun hHeld => ?_); refine with_tabW parH.tab15 parH.bits15 (fun HT_ HW_ => ?_)
      generalize W8.drew = w8 at H7 H8 H9 H10 H12 HB hHeld ⊢
      iterate 15 (first
        | (refine pureJ_ (v := undef) (a' := ?_) rfl rfl (any_of HT_.out (by kernel_rfl)) (fun _ _ _ h => h) (by (try simp only [Nat.reduceAdd]); first | done | rfl) (Or.inr ⟨by rfl, rfl⟩) ?_ ?_; rotate_left; (simp only [Act.put, List.setIfInBounds_toArray, List.set_cons_zero, List.set_cons_succ, i64_w, i32_w]; rfl))
        | (refine pureJ_ (v := ?_) (a' := ?_) rfl rfl (any_of HT_.out (by kernel_rfl)) (fun _ _ _ h => h) (by (try simp only [Nat.reduceAdd]); first | done | rfl) (Or.inl ⟨by rfl, ?_⟩) ?_ ?_; rotate_left; (intro w'; go_simp; with_reducible rfl); rotate_left; (simp only [Act.put, List.setIfInBounds_toArray, List.set_cons_zero, List.set_cons_succ, i64_w, i32_w]; rfl))
        | (refine takeJ_ (v := ?_) (a' := ?_) rfl rfl (take_ofW HT_.out HW_.out (by kernel_rfl)) (fun _ _ _ h => h) (by (try simp only [Nat.reduceAdd]); first | done | rfl) (Or.inl ⟨by rfl, ?_⟩) hHeld ?_ ?_; rotate_left; (rintro w' ⟨s0_, s1_, s2_, s3_, s4_, s5_, s6_, s7_, s8_, s9_⟩; go_simp; with_reducible rfl); rotate_left; (simp only [Act.put, List.setIfInBounds_toArray, List.set_cons_zero, List.set_cons_succ, i64_w, i32_w]; rfl)))
      refine pure_ (i := 16) (N := some 71) (v := ?_) (a' := ?_) (ms_ 23 98303) rfl rfl (any_of HT_.out (by kernel_rfl)) (fun _ _ _ h => h) (Or.inl ⟨by rfl, ?_⟩) ?_ ?_; rotate_left; (intro w'; go_simp; with_reducible rfl); rotate_left; (simp only [Act.put, List.setIfInBounds_toArray, List.set_cons_zero, List.set_cons_succ, i64_w, i32_w]; rfl)
      refine take_ (i := 17) (N := some 72) (v := ?_) (a' := ?_) (ms_ 23 229375) rfl rfl (take_ofW HT_.out HW_.out (by kernel_rfl)) (fun _ _ _ h => h) (Or.inl ⟨by rfl, ?_⟩) hHeld ?_ ?_; rotate_left; (rintro w' ⟨s0_, s1_, s2_, s3_, s4_, s5_, s6_, s7_, s8_, s9_⟩; go_simp; with_reducible rfl); rotate_left; (simp only [Act.put, List.setIfInBounds_toArray, List.set_cons_zero, List.set_cons_succ, i64_w, i32_w]; rfl)
      refine pure_ (i := 18) (N := some 73) (v := ?_) (a' := ?_) (ms_ 23 491519) rfl rfl (any_of HT_.out (by kernel_rfl)) (fun _ _ _ h => h) (Or.inl ⟨by rfl, ?_⟩) ?_ ?_; rotate_left; (intro w'; go_simp; with_reducible rfl); rotate_left; (simp only [Act.put, List.setIfInBounds_toArray, List.set_cons_zero, List.set_cons_succ, i64_w, i32_w]; rfl)
      refine take_ (i := 19) (N := some 74) (v := ?_) (a' := ?_) (ms_ 23 1015807) rfl rfl (take_ofW HT_.out HW_.out (by kernel_rfl)) (fun _ _ _ h => h) (Or.inl ⟨by rfl, ?_⟩) hHeld ?_ ?_; rotate_left; (rintro w' ⟨s0_, s1_, s2_, s3_, s4_, s5_, s6_, s7_, s8_, s9_⟩; go_simp; with_reducible rfl); rotate_left; (simp only [Act.put, List.setIfInBounds_toArray, List.set_cons_zero, List.set_cons_succ, i64_w, i32_w]; rfl)
      refine pure_ (i := 20) (N := some 75) (v := ?_) (a' := ?_) (ms_ 23 2064383) rfl rfl (any_of HT_.out (by kernel_rfl)) (fun _ _ _ h => h) (Or.inl ⟨by rfl, ?_⟩) ?_ ?_; rotate_left; (intro w'; go_simp; with_reducible rfl); rotate_left; (simp only [Act.put, List.setIfInBounds_toArray, List.set_cons_zero, List.set_cons_succ, i64_w, i32_w]; rfl)
      refine one_ (i := 15) (N := some 70) (pre_ 23 21) rfl rfl (one_of HT_.out (by kernel_rfl)) (by decide) (fun K_ hK => ?_)
      refine goes_ Try.func13 (by kernel_rfl) rfl #[.agg #[.int .i64 x.f0, .int .i64 x.f1, .int .i64 x.f3, .int .i64 x.f3, .int .i64 x.f4], .agg #[.int .i64 y.f0, .int .i64 y.f1, .int .i64 x.f3, .int .i64 x.f3, .int .i64 y.f4]] (by rfl) rfl rfl (by (try simp only [List.map_toArray, List.map_cons, List.map_nil]); first | done | rfl) ?_
      refine (param_Heavier.calls K x.f0 x.f1 x.f3 x.f3 x.f4 y.f0 y.f1 x.f3 x.f3 y.f4 (decide (x.f1 > y.f1)) w8 HHZ.out).mono ?_
      rintro e w9 ⟨rfl, q1⟩
      refine ⟨_, rfl, ?_⟩
      replace H7 := Lib.hid (blk_below H7.out q1)
      replace H8 := Lib.hid (blk_below H8.out q1)
      replace H9 := Lib.hid (blk_below H9.out q1)
      replace H10 := Lib.hid (blk_below H10.out q1)
      replace H12 := Lib.hid (blk_below H12.out q1)
      replace HB := Lib.hid (below_step HB.out q1)
      clear q1
      refine hK.out _ _ ⟨(blk_cell H10.out 0).trans rfl, (blk_cell H10.out 1).trans rfl, (blk_cell H10.out 2).trans rfl, (blk_cell H10.out 3).trans rfl, (blk_cell H10.out 4).trans rfl, (blk_cell H12.out 0).trans rfl, (blk_cell H12.out 1).trans rfl, (blk_cell H12.out 2).trans rfl, (blk_cell H12.out 3).trans rfl, (blk_cell H12.out 4).trans rfl⟩ (fun hHeld => ?_)
      clear hK K_
      refine norm_ (a' := ?_) ?_ ?_
      rotate_left
      · show Act.put _ (some 70) _ = _
        simp only [Act.put, List.setIfInBounds_toArray, List.set_cons_zero, List.set_cons_succ, i64_w, i32_w]
        rfl
      iterate 2 (first
        | (refine pureJ_ (v := undef) (a' := ?_) rfl rfl (any_of HT_.out (by kernel_rfl)) (fun _ _ _ h => h) (by (try simp only [Nat.reduceAdd]); first | done | rfl) (Or.inr ⟨by rfl, rfl⟩) ?_ ?_; rotate_left; (simp only [Act.put, List.setIfInBounds_toArray, List.set_cons_zero, List.set_cons_succ, i64_w, i32_w]; rfl))
        | (refine pureJ_ (v := ?_) (a' := ?_) rfl rfl (any_of HT_.out (by kernel_rfl)) (fun _ _ _ h => h) (by (try simp only [Nat.reduceAdd]); first | done | rfl) (Or.inl ⟨by rfl, ?_⟩) ?_ ?_; rotate_left; (intro w'; go_simp; with_reducible rfl); rotate_left; (simp only [Act.put, List.setIfInBounds_toArray, List.set_cons_zero, List.set_cons_succ, i64_w, i32_w]; rfl))
        | (refine takeJ_ (v := ?_) (a' := ?_) rfl rfl (take_ofW HT_.out HW_.out (by kernel_rfl)) (fun _ _ _ h => h) (by (try simp only [Nat.reduceAdd]); first | done | rfl) (Or.inl ⟨by rfl, ?_⟩) hHeld ?_ ?_; rotate_left; (rintro w' ⟨s0_, s1_, s2_, s3_, s4_, s5_, s6_, s7_, s8_, s9_⟩; go_simp; with_reducible rfl); rotate_left; (simp only [Act.put, List.setIfInBounds_toArray, List.set_cons_zero, List.set_cons_succ, i64_w, i32_w]; rfl)))
      refine done_ (done_of HT_.out (by kernel_rfl)) ?_
      clear hHeld
      have l0 := (blk_cell H7.out 0).trans rfl
      have l1 := (blk_cell H7.out 1).trans rfl
      have l2 := (blk_cell H7.out 2).trans rfl
      have l3 := (blk_cell H7.out 3).trans rfl
      have l4 := (blk_cell H7.out 4).trans rfl
      go_wp2_with fail
      (go_at_call 14; refine (param_Check.calls x.f0 x.f1 x.f2 x.f3 x.f4 true _ HCX.out).mono ?_; rintro e w10 ⟨rfl, q1⟩; replace H7 := Lib.hid (blk_below H7.out q1); replace H9 := Lib.hid (blk_below H9.out q1); replace HB := Lib.hid (below_step HB.out q1); clear q1 l0 l1 l2 l3 l4; have l0 := (blk_cell H7.out 0).trans rfl; have l1 := (blk_cell H7.out 1).trans rfl; have l2 := (blk_cell H7.out 2).trans rfl; have l3 := (blk_cell H7.out 3).trans rfl; have l4 := (blk_cell H7.out 4).trans rfl; have k0 := (blk_cell H9.out 0).trans rfl; have k1 := (blk_cell H9.out 1).trans rfl; have k2 := (blk_cell H9.out 2).trans rfl; have k3 := (blk_cell H9.out 3).trans rfl; have k4 := (blk_cell H9.out 4).trans rfl)
      go_wp2_with fail
      (go_at_call 14; refine (param_Check.calls x.f0 (x.f1 + 1) (x.f2 + 1) (x.f3 + 1) x.f4 true _ HCM.out).mono ?_; rintro e w11 ⟨rfl, q1⟩; replace H7 := Lib.hid (blk_below H7.out q1); replace HB := Lib.hid (below_step HB.out q1); clear q1 l0 l1 l2 l3 l4 k0 k1 k2 k3 k4; have l0 := (blk_cell H7.out 0).trans rfl; have l1 := (blk_cell H7.out 1).trans rfl; have l2 := (blk_cell H7.out 2).trans rfl; have l3 := (blk_cell H7.out 3).trans rfl; have l4 := (blk_cell H7.out 4).trans rfl)
      go_wp2_with fail
      (go_at_call 13; refine (param_Heavier.calls K x.f0 x.f1 x.f2 x.f3 x.f4 x.f0 x.f1 x.f2 x.f3 x.f4 false _ HXX.out).mono ?_; rintro e w12 ⟨rfl, q1⟩; replace HB := Lib.hid (below_step HB.out q1); clear q1 l0 l1 l2 l3 l4)
      go_wp2_with fail
      go_ret
      exact ⟨rfl, HB.out⟩
  · have c1b : decide (y.f1 ≤ x.f3) = false := decide_eq_false c1
    refine start_ (n := 23) (S := fun w' => w'.cell? ⟨p10, 0, none⟩ = some (.int .i64 y.f0) ∧ w'.cell? ⟨p10, 1, none⟩ = some (.int .i64 y.f1) ∧ w'.cell? ⟨p10, 2, none⟩ = some (.int .i64 x.f3) ∧ w'.cell? ⟨p10, 3, none⟩ = some (.int .i64 x.f3) ∧ w'.cell? ⟨p10, 4, none⟩ = some (.int .i64 y.f4) ∧ w'.cell? ⟨p12, 0, none⟩ = some (.int .i64 x.f0) ∧ w'.cell? ⟨p12, 1, none⟩ = some (.int .i64 x.f1) ∧ w'.cell? ⟨p12, 2, none⟩ = some (.int .i64 x.f3) ∧ w'.cell? ⟨p12, 3, none⟩ = some (.int .i64 x.f3) ∧ w'.cell? ⟨p12, 4, none⟩ = some (.int .i64 x.f4)) (ds := []) (pre_ 23 0) (by kernel_rfl) rfl rfl ⟨(blk_cell H10.out 0).trans rfl, (blk_cell H10.out 1).trans rfl, (blk_cell H10.out 2).trans rfl, (blk_cell H10.out 3).trans rfl, (blk_cell H10.out 4).trans rfl, (blk_cell H12.out 0).trans rfl, (blk_cell H12.out 1).trans rfl, (blk_cell H12.out 2).trans rfl, (blk_cell H12.out 3).trans rfl, (blk_cell H12.out 4).trans rfl⟩ (fun hHeld => ?_); refine with_tabW parH.tab15 parH.bits15 (fun HT_ HW_ => ?_)
    generalize W8.drew = w8 at H7 H8 H9 H10 H12 HB hHeld ⊢
    iterate 15 (first
      | (refine pureJ_ (v := undef) (a' := ?_) rfl rfl (any_of HT_.out (by kernel_rfl)) (fun _ _ _ h => h) (by (try simp only [Nat.reduceAdd]); first | done | rfl) (Or.inr ⟨by rfl, rfl⟩) ?_ ?_; rotate_left; (simp only [Act.put, List.setIfInBounds_toArray, List.set_cons_zero, List.set_cons_succ, i64_w, i32_w]; rfl))
      | (refine pureJ_ (v := ?_) (a' := ?_) rfl rfl (any_of HT_.out (by kernel_rfl)) (fun _ _ _ h => h) (by (try simp only [Nat.reduceAdd]); first | done | rfl) (Or.inl ⟨by rfl, ?_⟩) ?_ ?_; rotate_left; (intro w'; go_simp; with_reducible rfl); rotate_left; (simp only [Act.put, List.setIfInBounds_toArray, List.set_cons_zero, List.set_cons_succ, i64_w, i32_w]; rfl))
      | (refine takeJ_ (v := ?_) (a' := ?_) rfl rfl (take_ofW HT_.out HW_.out (by kernel_rfl)) (fun _ _ _ h => h) (by (try simp only [Nat.reduceAdd]); first | done | rfl) (Or.inl ⟨by rfl, ?_⟩) hHeld ?_ ?_; rotate_left; (rintro w' ⟨s0_, s1_, s2_, s3_, s4_, s5_, s6_, s7_, s8_, s9_⟩; go_simp; with_reducible rfl); rotate_left; (simp only [Act.put, List.setIfInBounds_toArray, List.set_cons_zero, List.set_cons_succ, i64_w, i32_w]; rfl)))
    refine pure_ (i := 16) (N := some 71) (v := undef) (a' := ?_) (ms_ 23 98303) rfl rfl (any_of HT_.out (by kernel_rfl)) (fun _ _ _ h => h) (Or.inr ⟨by rfl, rfl⟩) ?_ ?_; rotate_left; (simp only [Act.put, List.setIfInBounds_toArray, List.set_cons_zero, List.set_cons_succ, i64_w, i32_w]; rfl)
    refine pure_ (i := 17) (N := some 72) (v := undef) (a' := ?_) (ms_ 23 229375) rfl rfl (any_of HT_.out (by kernel_rfl)) (fun _ _ _ h => h) (Or.inr ⟨by rfl, rfl⟩) ?_ ?_; rotate_left; (simp only [Act.put, List.setIfInBounds_toArray, List.set_cons_zero, List.set_cons_succ, i64_w, i32_w]; rfl)
    refine pure_ (i := 18) (N := some 73) (v := undef) (a' := ?_) (ms_ 23 491519) rfl rfl (any_of HT_.out (by kernel_rfl)) (fun _ _ _ h => h) (Or.inr ⟨by rfl, rfl⟩) ?_ ?_; rotate_left; (simp only [Act.put, List.setIfInBounds_toArray, List.set_cons_zero, List.set_cons_succ, i64_w, i32_w]; rfl)
    refine pure_ (i := 19) (N := some 74) (v := undef) (a' := ?_) (ms_ 23 1015807) rfl rfl (any_of HT_.out (by kernel_rfl)) (fun _ _ _ h => h) (Or.inr ⟨by rfl, rfl⟩) ?_ ?_; rotate_left; (simp only [Act.put, List.setIfInBounds_toArray, List.set_cons_zero, List.set_cons_succ, i64_w, i32_w]; rfl)
    refine pure_ (i := 20) (N := some 75) (v := undef) (a' := ?_) (ms_ 23 2064383) rfl rfl (any_of HT_.out (by kernel_rfl)) (fun _ _ _ h => h) (Or.inr ⟨by rfl, rfl⟩) ?_ ?_; rotate_left; (simp only [Act.put, List.setIfInBounds_toArray, List.set_cons_zero, List.set_cons_succ, i64_w, i32_w]; rfl)
    refine one_ (i := 15) (N := some 70) (pre_ 23 21) rfl rfl (one_of HT_.out (by kernel_rfl)) (by decide) (fun K_ hK => ?_)
    refine off_ (by rfl) ?_
    refine hK.out _ _ ⟨(blk_cell H10.out 0).trans rfl, (blk_cell H10.out 1).trans rfl, (blk_cell H10.out 2).trans rfl, (blk_cell H10.out 3).trans rfl, (blk_cell H10.out 4).trans rfl, (blk_cell H12.out 0).trans rfl, (blk_cell H12.out 1).trans rfl, (blk_cell H12.out 2).trans rfl, (blk_cell H12.out 3).trans rfl, (blk_cell H12.out 4).trans rfl⟩ (fun hHeld => ?_)
    clear hK K_
    refine norm_ (a' := ?_) ?_ ?_
    rotate_left
    · show Act.put _ (some 70) _ = _
      simp only [Act.put, List.setIfInBounds_toArray, List.set_cons_zero, List.set_cons_succ, i64_w, i32_w]
      rfl
    iterate 2 (first
      | (refine pureJ_ (v := undef) (a' := ?_) rfl rfl (any_of HT_.out (by kernel_rfl)) (fun _ _ _ h => h) (by (try simp only [Nat.reduceAdd]); first | done | rfl) (Or.inr ⟨by rfl, rfl⟩) ?_ ?_; rotate_left; (simp only [Act.put, List.setIfInBounds_toArray, List.set_cons_zero, List.set_cons_succ, i64_w, i32_w]; rfl))
      | (refine pureJ_ (v := ?_) (a' := ?_) rfl rfl (any_of HT_.out (by kernel_rfl)) (fun _ _ _ h => h) (by (try simp only [Nat.reduceAdd]); first | done | rfl) (Or.inl ⟨by rfl, ?_⟩) ?_ ?_; rotate_left; (intro w'; go_simp; with_reducible rfl); rotate_left; (simp only [Act.put, List.setIfInBounds_toArray, List.set_cons_zero, List.set_cons_succ, i64_w, i32_w]; rfl))
      | (refine takeJ_ (v := ?_) (a' := ?_) rfl rfl (take_ofW HT_.out HW_.out (by kernel_rfl)) (fun _ _ _ h => h) (by (try simp only [Nat.reduceAdd]); first | done | rfl) (Or.inl ⟨by rfl, ?_⟩) hHeld ?_ ?_; rotate_left; (rintro w' ⟨s0_, s1_, s2_, s3_, s4_, s5_, s6_, s7_, s8_, s9_⟩; go_simp; with_reducible rfl); rotate_left; (simp only [Act.put, List.setIfInBounds_toArray, List.set_cons_zero, List.set_cons_succ, i64_w, i32_w]; rfl)))
    refine done_ (done_of HT_.out (by kernel_rfl)) ?_
    clear hHeld
    have l0 := (blk_cell H7.out 0).trans rfl
    have l1 := (blk_cell H7.out 1).trans rfl
    have l2 := (blk_cell H7.out 2).trans rfl
    have l3 := (blk_cell H7.out 3).trans rfl
    have l4 := (blk_cell H7.out 4).trans rfl
    go_wp2_with fail
    (go_at_call 14; refine (param_Check.calls x.f0 x.f1 x.f2 x.f3 x.f4 true _ HCX.out).mono ?_; rintro e w10 ⟨rfl, q1⟩; replace H7 := Lib.hid (blk_below H7.out q1); replace H9 := Lib.hid (blk_below H9.out q1); replace HB := Lib.hid (below_step HB.out q1); clear q1 l0 l1 l2 l3 l4; have l0 := (blk_cell H7.out 0).trans rfl; have l1 := (blk_cell H7.out 1).trans rfl; have l2 := (blk_cell H7.out 2).trans rfl; have l3 := (blk_cell H7.out 3).trans rfl; have l4 := (blk_cell H7.out 4).trans rfl; have k0 := (blk_cell H9.out 0).trans rfl; have k1 := (blk_cell H9.out 1).trans rfl; have k2 := (blk_cell H9.out 2).trans rfl; have k3 := (blk_cell H9.out 3).trans rfl; have k4 := (blk_cell H9.out 4).trans rfl)
    go_wp2_with fail
    (go_at_call 14; refine (param_Check.calls x.f0 (x.f1 + 1) (x.f2 + 1) (x.f3 + 1) x.f4 true _ HCM.out).mono ?_; rintro e w11 ⟨rfl, q1⟩; replace H7 := Lib.hid (blk_below H7.out q1); replace HB := Lib.hid (below_step HB.out q1); clear q1 l0 l1 l2 l3 l4 k0 k1 k2 k3 k4; have l0 := (blk_cell H7.out 0).trans rfl; have l1 := (blk_cell H7.out 1).trans rfl; have l2 := (blk_cell H7.out 2).trans rfl; have l3 := (blk_cell H7.out 3).trans rfl; have l4 := (blk_cell H7.out 4).trans rfl)
    go_wp2_with fail
    (go_at_call 13; refine (param_Heavier.calls K x.f0 x.f1 x.f2 x.f3 x.f4 x.f0 x.f1 x.f2 x.f3 x.f4 false _ HXX.out).mono ?_; rintro e w12 ⟨rfl, q1⟩; replace HB := Lib.hid (below_step HB.out q1); clear q1 l0 l1 l2 l3 l4)
    go_wp2_with fail
    go_ret
    exact ⟨rfl, HB.out⟩
def horariumlaw09_ParamHeavier.f (a0_0 a0_1 a0_2 a1_0 a1_1 a1_2 : Int) : Option Bool := some true
theorem horariumlaw09_ParamHeavier.calls (a0_0 a0_1 a0_2 a1_0 a1_1 a1_2 : Int) (r : Bool) (w : World) (h : horariumlaw09_ParamHeavier.f a0_0 a0_1 a0_2 a1_0 a1_1 a1_2 = some r) : Calls Try.prog 3 #[.agg #[.int .i64 a0_0, .int .i64 a0_1, .int .i64 a0_2], .agg #[.int .i64 a1_0, .int .i64 a1_1, .int .i64 a1_2]] w fun e w' => e = .returned (.bool r) ∧ Below w.heap.size w w' := by
  obtain rfl := Option.some.inj h
  exact parHeavier.calls a0_0 a0_1 a0_2 a1_0 a1_1 a1_2 w

def WF22 (x : S22) : Prop := (Lit.int .i64 x.f0).wf = true ∧ (Lit.int .i64 x.f1).wf = true ∧ (Lit.int .i64 x.f2).wf = true
set_option maxRecDepth 100000 in
theorem openk22 {H : Type} {enc : TypeId × Value → H} {W : World} {base : Nat} {spare : Nat → Bool} {held : Bool} {m : Nat} {cs : List Value} {x : DataW H × List MemPlace} (h : DataW.trod enc Try.prog W base spare held m 22 cs = some x) : ∃ y : S22, cs = [.int .i64 y.f0, .int .i64 y.f1, .int .i64 y.f2] ∧ WF22 y := by
  obtain ⟨xs, n, _, _, hl, hx, hf⟩ := DataW.trod_array Try.underlying22 h
  rw [show Try.prog.cellsOf 22 = 3 from by kernel_rfl] at hl
  obtain ⟨c0, c1, c2, rfl⟩ : ∃ c0 c1 c2, cs = [c0, c1, c2] := by clear h hf; match cs, hl with | [c0, c1, c2], _ => exact ⟨c0, c1, c2, rfl⟩
  obtain ⟨y0, y1, y2, rfl⟩ : ∃ y0 y1 y2, xs = [y0, y1, y2] := by clear hf; match xs, hx with | [y0, y1, y2], _ => exact ⟨y0, y1, y2, rfl⟩
  have g0 := hf 0 (by omega)
  rw [show Try.prog.cellsOf 3 = 1 from by kernel_rfl] at g0
  obtain ⟨v0, q0, _, w0⟩ := DataW.trod_int (cs := [c0]) (x := y0) Try.underlying3 g0
  simp only [List.cons.injEq, and_true] at q0
  subst q0
  have g1 := hf 1 (by omega)
  rw [show Try.prog.cellsOf 3 = 1 from by kernel_rfl] at g1
  obtain ⟨v1, q1, _, w1⟩ := DataW.trod_int (cs := [c1]) (x := y1) Try.underlying3 g1
  simp only [List.cons.injEq, and_true] at q1
  subst q1
  have g2 := hf 2 (by omega)
  rw [show Try.prog.cellsOf 3 = 1 from by kernel_rfl] at g2
  obtain ⟨v2, q2, _, w2⟩ := DataW.trod_int (cs := [c2]) (x := y2) Try.underlying3 g2
  simp only [List.cons.injEq, and_true] at q2
  subst q2
  refine ⟨⟨v0, v1, v2⟩, rfl, ?_⟩
  unfold WF22
  exact ⟨w0, w1, w2⟩
/-- THE ONE PURE STATEMENT of horariumlaw09_ParamHeavier. -/
def horariumlaw09_ParamHeavier.Pure : Prop := ∀ (a0_0 : Int) (a0_1 : Int) (a0_2 : Int) (a1_0 : Int) (a1_1 : Int) (a1_2 : Int), (Lit.int .i64 a0_0).wf = true → (Lit.int .i64 a0_1).wf = true → (Lit.int .i64 a0_2).wf = true → (Lit.int .i64 a1_0).wf = true → (Lit.int .i64 a1_1).wf = true → (Lit.int .i64 a1_2).wf = true → horariumlaw09_ParamHeavier.f a0_0 a0_1 a0_2 a1_0 a1_1 a1_2 = some true
theorem horariumlaw09_ParamHeavier.walk (P : horariumlaw09_ParamHeavier.Pure) (a0_0 : Int) (a0_1 : Int) (a0_2 : Int) (a1_0 : Int) (a1_1 : Int) (a1_2 : Int) (w : World) (w0_0 : (Lit.int .i64 a0_0).wf = true) (w0_1 : (Lit.int .i64 a0_1).wf = true) (w0_2 : (Lit.int .i64 a0_2).wf = true) (w1_0 : (Lit.int .i64 a1_0).wf = true) (w1_1 : (Lit.int .i64 a1_1).wf = true) (w1_2 : (Lit.int .i64 a1_2).wf = true) :
    Calls Try.prog 3 #[.agg #[.int .i64 a0_0, .int .i64 a0_1, .int .i64 a0_2], .agg #[.int .i64 a1_0, .int .i64 a1_1, .int .i64 a1_2]] w fun e w' => e = .returned (.bool true) ∧ Below w.heap.size w w' := by
  have h := P a0_0 a0_1 a0_2 a1_0 a1_1 a1_2 w0_0 w0_1 w0_2 w1_0 w1_1 w1_2
  refine (horariumlaw09_ParamHeavier.calls a0_0 a0_1 a0_2 a1_0 a1_1 a1_2 true w  h).mono ?_
  rintro e w' ⟨rfl, hd⟩
  exact ⟨rfl, hd⟩

end Go.Proofs.Ytmgmpifbhjoijaa.PParamHeavier
