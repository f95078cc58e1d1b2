-- Made by px.py (a program of this session, over the kit's printer) out of the translation. Not trusted: Lean checks it.
import Derived.Test.YtbkjoojfpmokaaaPWidePartsx0
import Derived.Test.YtbkjoojfpmokaaaPWidePartsx3
namespace Go.Proofs.Ytbkjoojfpmokaaa.PWideParts
open Go.RowKit Go.Proofs.YtbkjoojfpmokaaaW.PrintWords Go.Proofs.YtbkjoojfpmokaaaW.PrintLast Go.Proofs.YtbkjoojfpmokaaaW.PrintMore
attribute [local go_sem] max2_int min2_int max_two min_two max_three min_three max_four min_four   -- for this text's walks alone
set_option linter.unusedVariables false
set_option linter.unusedSimpArgs false

/-! ### slices_Reverse__byte_byte: function 80 -/
def slices_Reverse__byte_byte.l0 : Nat → List Int → Int → Int → Option (List Int)
  | 0, _, _, _ => none
  | k + 1, x0, x2, x3 => if x2 < x3 then (if 0 ≤ x3 then (if x3 < (x0.length : Int) then (if 0 ≤ x2 then (if x2 < (x0.length : Int) then (slices_Reverse__byte_byte.l0 k ((x0.set (x2 : Int).toNat (rd x0 x3)).set (x3 : Int).toNat (rd x0 x2)) (wrap64 (x2 + 1)) (wrap64 (x3 - 1))) else (none)) else (none)) else (none)) else (none)) else (some x0)
def slices_Reverse__byte_byte.f (k : Nat) (l0 : List Int) : Option (List Int) := slices_Reverse__byte_byte.l0 k l0 0 (wrap64 ((l0.length : Int) - 1))
theorem slices_Reverse__byte_byte.mono_l : ∀ k, (∀ y0 y1 y2, LeO (slices_Reverse__byte_byte.l0 k y0 y1 y2) (slices_Reverse__byte_byte.l0 (k + 1) y0 y1 y2))
  | 0 => fun _ _ _ r h => by simp [slices_Reverse__byte_byte.l0] at h
  | k + 1 => by
    have ih0 := slices_Reverse__byte_byte.mono_l k
    · intro y0 y1 y2
      unfold slices_Reverse__byte_byte.l0
      repeat' first
      | (with_reducible exact ih0 _ _ _)
      | (with_reducible exact LeO.refl _)
      | (with_reducible exact LeO.none _)
      | (with_reducible refine LeO.ite ?_ ?_)
      | (with_reducible refine LeO.bind ?_ (fun _ => ?_))
      | exact ih0 _ _ _
      | exact LeO.none _
      | refine LeO.ite ?_ ?_
      | refine LeO.bind ?_ (fun _ => ?_)
theorem slices_Reverse__byte_byte.mono : ∀ a0 k, LeO (slices_Reverse__byte_byte.f k a0) (slices_Reverse__byte_byte.f (k + 1) a0) := by
  intro a0 k
  have ih0 := slices_Reverse__byte_byte.mono_l k
  unfold slices_Reverse__byte_byte.f
  repeat' first
      | (with_reducible exact ih0 _ _ _)
      | (with_reducible exact LeO.refl _)
      | (with_reducible exact LeO.none _)
      | (with_reducible refine LeO.ite ?_ ?_)
      | (with_reducible refine LeO.bind ?_ (fun _ => ?_))
      | exact ih0 _ _ _
      | exact LeO.none _
      | refine LeO.ite ?_ ?_
      | refine LeO.bind ?_ (fun _ => ?_)
def slices_Reverse__byte_byte.T3 : Bool × List (List Nat × List Nat) := (true, [([], []), ([], []), ([], []), ([], []), ([], []), ([], []), ([4, 5], [4, 5]), ([6], [6]), ([], []), ([], []), ([8, 9], [8, 9]), ([10], [10]), ([0, 1, 0, 1, 4, 5, 6, 7, 11], [0, 1]), ([12, 7, 0, 1, 4, 5, 6, 7, 11], [7, 12]), ([2, 3, 0, 1, 2, 3, 4, 5, 6, 7, 8, 9, 10, 11, 12, 13], [2, 3]), ([14, 11, 13, 0, 1, 2, 3, 4, 5, 6, 7, 8, 9, 10, 11, 12, 13], [11, 14])])
def slices_Reverse__byte_byte.B3 : List Nat := [0, 0, 0, 0, 0, 0, 48, 112, 0, 0, 768, 1792, 4083, 8179, 16383, 32767]
theorem slices_Reverse__byte_byte.tab3 : rtab .any (opsOf Try.f80 3) = slices_Reverse__byte_byte.T3 := by kernel_rfl
theorem slices_Reverse__byte_byte.bits3 : waitsOk slices_Reverse__byte_byte.T3.2 slices_Reverse__byte_byte.B3 = true := by kernel_rfl
set_option maxHeartbeats 8000000 in
set_option maxRecDepth 100000 in
theorem slices_Reverse__byte_byte.calls (k : Nat) (P0_ : Nat → Prop) (u9000_ : Value) (l0 : List Int) (r : List Int) (w0 w : World) (hB : Below w0.heap.size w0 w) (ho0 : Kd.R (Kd.int .u8) 5 w w0.heap.size P0_ u9000_ l0) (h : slices_Reverse__byte_byte.f k l0 = some r) :
    Calls Try.prog 80 #[u9000_] w fun e w' => e = .returned (.tuple #[]) ∧ Kd.R (Kd.int .u8) 5 w' w0.heap.size (fun k_ => (P0_ k_ ∨ w.heap.size ≤ k_)) u9000_ r ∧ Below w0.heap.size w0 w' ∧ Kept w w' (fun k_ => P0_ k_) := by
  have HO0 := Aside0.mk (show Kd.R (Kd.int .u8) 5 w w0.heap.size (fun k_ => (P0_ k_ ∨ w.heap.size ≤ k_)) u9000_ l0 from Kd.R_mono ho0 (fun k_ hk => (.inl hk)))
  have HK := Aside0.mk (Kept.refl w (fun k_ => P0_ k_))
  have HW0 := Aside0.mk hB.size
  have HB := Aside0.mk hB
  clear hB
  have H : (slices_Reverse__byte_byte.l0 k l0 0 (wrap64 ((l0.length : Int) - 1))) = some r := h
  clear h
  have H' := Aside0.mk H
  clear H
  obtain ⟨Ao2, co2, eo2⟩ := Kd.R_slice HO0.out
  subst eo2
  go_enter Try.func80, Try.ntmps80
  go_wp2
  go_loopg [2, 3] k (fun kq v2 v3 w' => ∃ (x0_1 : List Int) (x2_1 : Int) (x3_1 : Int), v2 = .int .i64 x2_1 ∧ v3 = .int .i64 x3_1 ∧ Aside0 (slices_Reverse__byte_byte.l0 kq x0_1 x2_1 x3_1 = some r) ∧ Aside0 (kq ≤ k) ∧ Aside0 (Kd.R (Kd.int .u8) 5 w' w0.heap.size (fun k_ => (P0_ k_ ∨ w.heap.size ≤ k_)) (.slice Ao2 l0.length co2) x0_1) ∧ Aside0 (Kept w w' (fun k_ => P0_ k_)) ∧ Aside0 (Below w0.heap.size w0 w'))
  case atStart => exact ⟨(l0), (0), (wrap64 ((l0.length : Int) - 1)), (by first | rfl | (simp; done) | (simp [*]; done)), (by first | rfl | (simp; done) | (simp [*]; done)), H', ⟨Nat.le_refl _⟩, ⟨by (with_reducible repeat (first | apply Kd.R_alloc | apply Kd.R_drewN | apply Kd.R_drew)); exact HO0.out⟩, ⟨by repeat (first | (with_reducible first | exact HK.out | apply Kept.alloc | apply Kept.drewN | apply Kept.drew) | exact HK.out)⟩, ⟨by repeat (first | (with_reducible first | exact HB.out | apply below_alloc | apply pw_below_drewN | apply below_drew1) | exact HB.out)⟩⟩
  case round =>
    clear H'
    try clear p2
    obtain ⟨x0_1, x2_1, x3_1, rfl, rfl, HA, HK1, HO_0, HK, HB⟩ := hrel
    have hl0_1 := (Kd.R_reads' HO_0.out).1
    rw [hl0_1] at HO_0
    (try simp only [hl0_1])
    cases gk with
    | zero => exact absurd HA.out (by simp [slices_Reverse__byte_byte.l0])
    | succ k1 =>
      have H := HA.out
      clear HA
      simp only [slices_Reverse__byte_byte.l0] at H
      by_cases c3 : x2_1 < x3_1
      · rw [if_pos c3] at H
        have c3b0 : decide (x2_1 < x3_1) = true := decide_eq_true c3
        clear c3
        by_cases c4 : 0 ≤ x3_1
        · rw [if_pos c4] at H
          have c4b0 : decide (0 ≤ x3_1) = true := decide_eq_true c4
          clear c4
          by_cases c5 : x3_1 < (x0_1.length : Int)
          · rw [if_pos c5] at H
            have c5b0 : decide (x3_1 < (x0_1.length : Int)) = true := decide_eq_true c5
            clear c5
            by_cases c6 : 0 ≤ x2_1
            · rw [if_pos c6] at H
              have c6b0 : decide (0 ≤ x2_1) = true := decide_eq_true c6
              clear c6
              by_cases c7 : x2_1 < (x0_1.length : Int)
              · rw [if_pos c7] at H
                have c7b0 : decide (x2_1 < (x0_1.length : Int)) = true := decide_eq_true c7
                clear c7
                obtain ⟨y120, hy120⟩ : ∃ y_ : List Int, y_ = (x0_1.set (x2_1 : Int).toNat (rd x0_1 x3_1)) := ⟨_, rfl⟩
                replace H : (slices_Reverse__byte_byte.l0 k1 (y120.set (x3_1 : Int).toNat (rd x0_1 x2_1)) (wrap64 (x2_1 + 1)) (wrap64 (x3_1 - 1))) = some r := by first | (rw [hy120]; with_reducible exact H) | (have H2_ := (Option.bind_some _ _).symm.trans H; rw [hy120]; with_reducible exact H2_) | (have H2_ := (Option.bind_some _ _).symm.trans H; with_reducible exact H2_) | with_reducible exact H | (rw [hy120]; exact H) | exact H
                have Ny120 := Aside0.mk hy120
                clear hy120
                obtain ⟨y121, hy121⟩ : ∃ y_ : List Int, y_ = (y120.set (x3_1 : Int).toNat (rd x0_1 x2_1)) := ⟨_, rfl⟩
                replace H : (slices_Reverse__byte_byte.l0 k1 y121 (wrap64 (x2_1 + 1)) (wrap64 (x3_1 - 1))) = some r := by first | (rw [hy121]; with_reducible exact H) | (have H2_ := (Option.bind_some _ _).symm.trans H; rw [hy121]; with_reducible exact H2_) | (have H2_ := (Option.bind_some _ _).symm.trans H; with_reducible exact H2_) | with_reducible exact H | (rw [hy121]; exact H) | exact H
                have Ny121 := Aside0.mk hy121
                clear hy121
                have H' := Aside0.mk H
                clear H
                try go_wp2
                have n0_ := Aside0.mk (Kd.R_drew HO_0.out)
                have n1_ := Aside0.mk (Kept.drew HK.out)
                have n2_ := Aside0.mk (below_drew1 HB.out)
                clear HO_0
                clear HK
                clear HB
                have HO_0 := n0_
                have HK := n1_
                have HB := n2_
                clear n0_ n1_ n2_
                have p118 : 0 ≤ (x3_1 : Int) := of_decide_eq_true (by first | (with_reducible assumption) | assumption)
                have q118 : x3_1 < (x0_1.length : Int) := of_decide_eq_true (by first | (with_reducible assumption) | assumption)
                obtain ⟨ad118, e118, hx118_0⟩ := Kd.at_int (Kd.R_reads' HO_0.out).2.2 x3_1 p118 q118
                cases e118
                replace p118 := eq_true p118
                replace q118 := eq_true q118
                have p119 : 0 ≤ (x2_1 : Int) := of_decide_eq_true (by first | (with_reducible assumption) | assumption)
                have q119 : x2_1 < (x0_1.length : Int) := of_decide_eq_true (by first | (with_reducible assumption) | assumption)
                obtain ⟨ad119, e119, hx119_0⟩ := Kd.at_int (Kd.R_reads' HO_0.out).2.2 x2_1 p119 q119
                obtain rfl : ad118 = ad119 := (by injection e119)
                replace p119 := eq_true p119
                replace q119 := eq_true q119
                have p8 : 0 ≤ (x2_1 : Int) := of_decide_eq_true (by first | (with_reducible assumption) | assumption)
                have q8 : (x2_1 : Int) < ((x0_1.length : Int) : Int) := of_decide_eq_true (by first | (with_reducible assumption) | assumption)
                obtain ⟨go8, co8, eo8, gb8, gl8, cl8, HG8⟩ := Kd.R_form HO_0.out (by omega)
                (first | cases eo8 | (injection eo8 with ea_ en_ ec_; (first | subst ea_ | (injection ea_ with ea_; subst ea_)); subst ec_; clear en_))
                have GB8 := Aside0.mk gb8
                have GG8 := Aside0.mk HG8
                clear gb8 gl8 HG8
                have HMgo8 := Aside0.mk (show (P0_ go8 ∨ w.heap.size ≤ go8) from (HO_0.out.1 _ rfl))
                (first | simp only [add_plain] at hx118_0 | skip)
                (first | simp only [add_plain] at hx119_0 | skip)
                obtain ⟨hx8_0, hf8_0⟩ := Kd.R_celln 0 HO_0.out (x2_1 : Int) p8 q8
                replace p8 := eq_true p8
                replace q8 := eq_true q8
                have HP11 := Kd.R_putn HO_0.out (x2_1 : Int) (rd x0_1 x3_1)
                rw [← Ny120.out] at HP11
                have HQ11 := Aside0.mk HP11
                clear HP11
                have p9 : 0 ≤ (x3_1 : Int) := of_decide_eq_true (by first | (with_reducible assumption) | assumption)
                have q9 : (x3_1 : Int) < ((x0_1.length : Int) : Int) := of_decide_eq_true (by first | (with_reducible assumption) | assumption)
                obtain ⟨hx9_0, hf9_0⟩ := Kd.R_celln 0 HQ11.out (x3_1 : Int) p9 q9
                replace p9 := eq_true p9
                replace q9 := eq_true q9
                have HP12 := Kd.R_putn HQ11.out (x3_1 : Int) (rd x0_1 x2_1)
                rw [← Ny121.out] at HP12
                have HQ12 := Aside0.mk HP12
                clear HP12
                refine start_ (n := 16) (S := fun w' => w'.cell? ⟨go8, (x3_1).toNat, none⟩ = some (.int .u8 (rd x0_1 x3_1)) ∧ w'.cell? ⟨go8, (x2_1).toNat, none⟩ = some (.int .u8 (rd x0_1 x2_1))) (ds := [13, 15]) #[false, false, false, false, false, false, false, false, false, false, false, false, false, false, false, false] (by kernel_rfl) rfl rfl ⟨hx118_0, hx119_0⟩ (fun hHeld => ?_); refine with_tabW slices_Reverse__byte_byte.tab3 slices_Reverse__byte_byte.bits3 (fun HT_ HW_ => ?_)
                generalize wr.drew = w10 at HO_0 HK HB GG8 HQ11 HQ12 hf8_0 hf9_0 hx118_0 hx119_0 hx8_0 hx9_0 hHeld ⊢
                refine pure_ (i := 0) (N := some 14) (v := ?_) (a' := ?_) #[true, false, false, false, false, false, false, false, false, false, false, false, false, false, false, false] rfl rfl (any_of HT_.out (by kernel_rfl)) (fun _ _ _ h => h) (Or.inl ⟨by rfl, ?_⟩) ?_ ?_
                rotate_left
                · intro w'
                  go_simp
                  with_reducible rfl
                rotate_left
                · simp only [Act.put, List.setIfInBounds_toArray, List.set_cons_zero, List.set_cons_succ, i64_w, i32_w]
                  rfl
                refine pure_ (i := 1) (N := some 15) (v := ?_) (a' := ?_) #[true, true, false, false, false, false, false, false, false, false, false, false, false, false, false, false] rfl rfl (any_of HT_.out (by kernel_rfl)) (fun _ _ _ h => h) (Or.inl ⟨by rfl, ?_⟩) ?_ ?_
                rotate_left
                · intro w'
                  go_simp
                  with_reducible rfl
                rotate_left
                · simp only [Act.put, List.setIfInBounds_toArray, List.set_cons_zero, List.set_cons_succ, i64_w, i32_w]
                  rfl
                refine pure_ (i := 2) (N := some 16) (v := ?_) (a' := ?_) #[true, true, true, false, false, false, false, false, false, false, false, false, false, false, false, false] rfl rfl (any_of HT_.out (by kernel_rfl)) (fun _ _ _ h => h) (Or.inl ⟨by rfl, ?_⟩) ?_ ?_
                rotate_left
                · intro w'
                  go_simp
                  with_reducible rfl
                rotate_left
                · simp only [Act.put, List.setIfInBounds_toArray, List.set_cons_zero, List.set_cons_succ, i64_w, i32_w]
                  rfl
                refine pure_ (i := 3) (N := some 17) (v := ?_) (a' := ?_) #[true, true, true, true, false, false, false, false, false, false, false, false, false, false, false, false] rfl rfl (any_of HT_.out (by kernel_rfl)) (fun _ _ _ h => h) (Or.inl ⟨by rfl, ?_⟩) ?_ ?_
                rotate_left
                · intro w'
                  go_simp
                  with_reducible rfl
                rotate_left
                · simp only [Act.put, List.setIfInBounds_toArray, List.set_cons_zero, List.set_cons_succ, i64_w, i32_w]
                  rfl
                refine pure_ (i := 4) (N := some 18) (v := ?_) (a' := ?_) #[true, true, true, true, true, false, false, false, false, false, false, false, false, false, false, false] rfl rfl (any_of HT_.out (by kernel_rfl)) (fun _ _ _ h => h) (Or.inl ⟨by rfl, ?_⟩) ?_ ?_
                rotate_left
                · intro w'
                  go_simp
                  with_reducible rfl
                rotate_left
                · simp only [Act.put, List.setIfInBounds_toArray, List.set_cons_zero, List.set_cons_succ, i64_w, i32_w]
                  rfl
                refine pure_ (i := 5) (N := some 19) (v := ?_) (a' := ?_) #[true, true, true, true, true, true, false, false, false, false, false, false, false, false, false, false] rfl rfl (any_of HT_.out (by kernel_rfl)) (fun _ _ _ h => h) (Or.inl ⟨by rfl, ?_⟩) ?_ ?_
                rotate_left
                · intro w'
                  go_simp
                  with_reducible rfl
                rotate_left
                · simp only [Act.put, List.setIfInBounds_toArray, List.set_cons_zero, List.set_cons_succ, i64_w, i32_w]
                  rfl
                refine pure_ (i := 6) (N := some 20) (v := ?_) (a' := ?_) #[true, true, true, true, true, true, true, false, false, false, false, false, false, false, false, false] rfl rfl (any_of HT_.out (by kernel_rfl)) (fun _ _ _ h => h) (Or.inl ⟨by rfl, ?_⟩) ?_ ?_
                rotate_left
                · intro w'
                  go_simp
                  with_reducible rfl
                rotate_left
                · simp only [Act.put, List.setIfInBounds_toArray, List.set_cons_zero, List.set_cons_succ, i64_w, i32_w]
                  rfl
                refine pure_ (i := 8) (N := some 22) (v := ?_) (a' := ?_) #[true, true, true, true, true, true, true, false, true, false, false, false, false, false, false, false] rfl rfl (any_of HT_.out (by kernel_rfl)) (fun _ _ _ h => h) (Or.inl ⟨by rfl, ?_⟩) ?_ ?_
                rotate_left
                · intro w'
                  go_simp
                  with_reducible rfl
                rotate_left
                · simp only [Act.put, List.setIfInBounds_toArray, List.set_cons_zero, List.set_cons_succ, i64_w, i32_w]
                  rfl
                refine pure_ (i := 9) (N := some 23) (v := ?_) (a' := ?_) #[true, true, true, true, true, true, true, false, true, true, false, false, false, false, false, false] rfl rfl (any_of HT_.out (by kernel_rfl)) (fun _ _ _ h => h) (Or.inl ⟨by rfl, ?_⟩) ?_ ?_
                rotate_left
                · intro w'
                  go_simp
                  with_reducible rfl
                rotate_left
                · simp only [Act.put, List.setIfInBounds_toArray, List.set_cons_zero, List.set_cons_succ, i64_w, i32_w]
                  rfl
                refine pure_ (i := 10) (N := some 24) (v := ?_) (a' := ?_) #[true, true, true, true, true, true, true, false, true, true, true, false, false, false, false, false] rfl rfl (any_of HT_.out (by kernel_rfl)) (fun _ _ _ h => h) (Or.inl ⟨by rfl, ?_⟩) ?_ ?_
                rotate_left
                · intro w'
                  go_simp
                  with_reducible rfl
                rotate_left
                · simp only [Act.put, List.setIfInBounds_toArray, List.set_cons_zero, List.set_cons_succ, i64_w, i32_w]
                  rfl
                refine take_ (i := 7) (N := some 21) (v := ?_) (a' := ?_) #[true, true, true, true, true, true, true, true, true, true, true, false, false, false, false, false] rfl rfl (take_ofW HT_.out HW_.out (by kernel_rfl)) (fun _ _ _ h => h) (Or.inl ⟨by rfl, ?_⟩) hHeld ?_ ?_
                rotate_left
                · rintro w' ⟨s0, s1⟩
                  go_simp
                  with_reducible rfl
                rotate_left
                · simp only [Act.put, List.setIfInBounds_toArray, List.set_cons_zero, List.set_cons_succ, i64_w, i32_w]
                  rfl
                refine take_ (i := 11) (N := some 25) (v := ?_) (a' := ?_) #[true, true, true, true, true, true, true, true, true, true, true, true, false, false, false, false] rfl rfl (take_ofW HT_.out HW_.out (by kernel_rfl)) (fun _ _ _ h => h) (Or.inl ⟨by rfl, ?_⟩) hHeld ?_ ?_
                rotate_left
                · rintro w' ⟨s0, s1⟩
                  go_simp
                  with_reducible rfl
                rotate_left
                · simp only [Act.put, List.setIfInBounds_toArray, List.set_cons_zero, List.set_cons_succ, i64_w, i32_w]
                  rfl
                refine pure_ (i := 12) (N := some 26) (v := ?_) (a' := ?_) #[true, true, true, true, true, true, true, true, true, true, true, true, true, false, false, false] rfl rfl (any_of HT_.out (by kernel_rfl)) (fun _ _ _ h => h) (Or.inl ⟨by rfl, ?_⟩) ?_ ?_
                rotate_left
                · intro w'
                  go_simp
                  with_reducible rfl
                rotate_left
                · simp only [Act.put, List.setIfInBounds_toArray, List.set_cons_zero, List.set_cons_succ, i64_w, i32_w]
                  rfl
                refine last_ (i := 13) (N := none) #[true, true, true, true, true, true, true, true, true, true, true, true, true, true, false, false] rfl rfl (one_of HT_.out (by kernel_rfl)) (by decide) (fun K hK => ?_)
                refine skip_ (w1 := ?_) (by rfl) rfl ?_ ?_
                rotate_left
                · go_simp
                  rfl
                refine hK.out _ _ ?_
                clear hK K
                refine pure_ (i := 14) (N := some 27) (v := ?_) (a' := ?_) #[true, true, true, true, true, true, true, true, true, true, true, true, true, true, true, false] rfl rfl (any_of HT_.out (by kernel_rfl)) (fun _ _ _ h => h) (Or.inl ⟨by rfl, ?_⟩) ?_ ?_
                rotate_left
                · intro w'
                  go_simp
                  with_reducible rfl
                rotate_left
                · simp only [Act.put, List.setIfInBounds_toArray, List.set_cons_zero, List.set_cons_succ, i64_w, i32_w]
                  rfl
                refine last_ (i := 15) (N := none) #[true, true, true, true, true, true, true, true, true, true, true, true, true, true, true, true] rfl rfl (one_of HT_.out (by kernel_rfl)) (by decide) (fun K hK => ?_)
                refine skip_ (w1 := ?_) (by rfl) rfl ?_ ?_
                rotate_left
                · go_simp
                  rfl
                refine hK.out _ _ ?_
                clear hK K
                refine done_ (done_of HT_.out (by kernel_rfl)) ?_
                try go_wp2
                (try simp only [← hl0_1])
                go_roundg k1
                case measure => have := HK1.out; omega
                case rel => exact ⟨(y121), (wrap64 (x2_1 + 1)), (wrap64 (x3_1 - 1)), (by first | rfl | (simp; done) | (simp [*]; done)), (by first | rfl | (simp; done) | (simp [*]; done)), H', ⟨by have := HK1.out; omega⟩, ⟨by (try simp only [hl0_1]); (with_reducible repeat (first | apply Kd.R_alloc | apply Kd.R_drewN | apply Kd.R_drew)); exact HQ12.out⟩, ⟨by repeat (first | (with_reducible first | exact HK.out | apply Kept.alloc | apply Kept.drewN | apply Kept.drew | refine Kept.setCell ?_ HMgo8.out _ | refine Kept.setCell ?_ HMgo8.out _) | exact HK.out)⟩, ⟨by repeat (first | (with_reducible first | exact HB.out | apply below_alloc | apply pw_below_drewN | apply below_drew1 | refine below_set ?_ GB8.out | refine below_set ?_ GB8.out) | exact HB.out)⟩⟩
              · rw [if_neg c7] at H
                exact absurd H (by simp)
            · rw [if_neg c6] at H
              exact absurd H (by simp)
          · rw [if_neg c5] at H
            exact absurd H (by simp)
        · rw [if_neg c4] at H
          exact absurd H (by simp)
      · rw [if_neg c3] at H
        have c3b0 : decide (x2_1 < x3_1) = false := decide_eq_false c3
        clear c3
        obtain rfl := Option.some.inj H
        go_wp2
        first | go_end0 | ((try simp only [Exit.inBlock, Exit.then]); refine bodyPost_ret (results_none rfl _ _ _) rfl ?_)
        exact ⟨by first | rfl | (simp [errW_none, errW_some] <;> rfl) | (simp [*, errW_none, errW_some] <;> rfl), (by first | exact (by (with_reducible repeat (first | apply Kd.R_alloc | apply Kd.R_drewN | apply Kd.R_drew)); exact HO_0.out) | (simp only [hl0_1]; exact (by (with_reducible repeat (first | apply Kd.R_alloc | apply Kd.R_drewN | apply Kd.R_drew)); exact HO_0.out))), by repeat (first | (with_reducible first | exact HB.out | apply below_alloc | apply pw_below_drewN | apply below_drew1) | exact HB.out), by repeat (first | (with_reducible first | exact HK.out | apply Kept.alloc | apply Kept.drewN | apply Kept.drew) | exact HK.out)⟩

/-! ### wide_Text: function 37 (by hand) -/
-- wide_Div wide_Cmp slices_Reverse__byte_byte
def digOf (r : Int) : Int := (48 + r) % 256
/-- The digits of a number, the last one first, behind those that are there. -/
def textGo : Nat → Int → Int → List Int → Option (List Int)
  | 0, _, _, _ => none
  | k + 1, hi, lo, out => (wide_Div.f k hi lo 10).bind fun t => if out.length < 10000000000000 then (wide_Cmp.f k t.1 t.2.1 0 0).bind fun s => if s > 0 then textGo k t.1 t.2.1 (out ++ [digOf t.2.2.1]) else some (out ++ [digOf t.2.2.1]) else none
theorem textGo_mono : ∀ k hi lo out, LeO (textGo k hi lo out) (textGo (k + 1) hi lo out)
  | 0, _, _, _ => fun r h => by simp [textGo] at h
  | k + 1, hi, lo, out => by
    unfold textGo
    exact LeO.bind (wide_Div.mono _ _ _ k) (fun t => LeO.ite (LeO.bind (wide_Cmp.mono _ _ _ _ k) (fun s => LeO.ite (textGo_mono k _ _ _) (LeO.refl _))) (LeO.refl _))
set_option maxHeartbeats 4000000 in
set_option maxRecDepth 100000 in
theorem textNext.calls (k : Nat) (ba bb base : Nat) (hi lo r1 r2 r3 s : Int) (r4 : Bool) (out : List Int) (v : Value) (w : World)
    (ha : w.heap[ba]? = some (.cells #[.int .u64 hi, .int .u64 lo] 44 (0, 0))) (hb : w.heap[bb]? = some (.cells #[v] 118 (0, 0))) (hown : w.ownsRow base 5 1 v out.length (out.map (Value.int .u8)))
    (l1 : ba < base) (l2 : bb < base) (l3 : base ≤ w.heap.size) (hne : ba ≠ bb) (hD : wide_Div.f k hi lo 10 = some (r1, r2, r3, r4)) (hC : wide_Cmp.f k r1 r2 0 0 = some s) (hlen : out.length < 10000000000000) :
    Calls Try.prog 79 #[.pointer (some ⟨ba, 0, none⟩), .pointer (some ⟨bb, 0, none⟩)] w fun e w' => e = .returned (.bool (decide (s > 0))) ∧ w'.heap[ba]? = some (.cells #[.int .u64 r1, .int .u64 r2] 44 (0, 0)) ∧ (∃ v', w'.heap[bb]? = some (.cells #[v'] 118 (0, 0)) ∧ w'.ownsRow base 5 1 v' (out.length + 1) ((out ++ [digOf r3]).map (Value.int .u8))) ∧ ∀ B, B ≤ ba → B ≤ bb → Below B w w' := by
  have hu := Try.underlying44
  have HD := Lib.hid (wide_Div.calls k hi lo 10 r1 r2 r3 r4 w hD)
  have HC := Lib.hid (fun W => wide_Cmp.calls k r1 r2 0 0 s W hC)
  have HA := Lib.hid ha
  have HB := Lib.hid hb
  have HO := Lib.hid hown
  have c0 : w.cell? ⟨ba, 0, none⟩ = some (.int .u64 hi) := (blk_cell ha 0).trans rfl
  have c1 : w.cell? ⟨ba, 1, none⟩ = some (.int .u64 lo) := (blk_cell ha 1).trans rfl
  clear ha hb hown hD hC
  go_enter Try.func79, Try.ntmps79
  obtain ⟨i0, hi0, hz0, hz1, hz2⟩ := info_parts info5
  go_wp2_with (first
    | (go_at_call 35; (
       refine HD.out.mono ?_; rintro e w1 ⟨rfl, hb1⟩
       have hq := blk_below HB.out hb1
       have hlt := (Array.getElem?_eq_some_iff.1 hq).1
       have c2 : ∀ o, (w1.alloc o).cell? ⟨bb, 0, none⟩ = some v := fun o => (blk_cell ((Below.heap_alloc w1 o bb hlt).trans hq) 0).trans rfl
       have HO1 := Lib.hid (PxR.own_below HO.out hb1)
       have HA1 := Lib.hid (blk_below HA.out hb1)
       have HQ := Lib.hid hq
       have hsz : w.heap.size ≤ w1.heap.size := hb1.size
       have HB1 := Lib.hid hb1
       clear hb1 hq))
    | (at_builtin; (
       refine wpList_append_own _ rfl _ _ 118 rfl base 5 i0 (.int .u8 0) 1 1 Try.underlying118 hi0 hz0 hz1 hz2 rfl (by decide) _ _ _ rfl ((HO1.out.alloc _).alloc _) ⟨w1.heap.size + 1, 0, none⟩ 1 1 [.int .u8 ((48 + r3) % 256)] rfl rfl (by have := cell_one_new (w1.alloc (.cells #[.int .u64 r1, .int .u64 r2] 44)) (.int .u8 ((48 + r3) % 256)) 5; rw [World.size_alloc] at this; exact this) (by simp [Value.oneCell']) (by unfold maxLen; omega) (by omega) (by simp; omega) ?_; intro v' w3 hown' hg3 hnil3
       replace hg3 : ((w1.alloc (.cells #[.int .u64 r1, .int .u64 r2] 44)).alloc (.cells #[.int .u8 ((48 + r3) % 256)] 5)).grownBy w3 v.ownBlock := hg3
       have hbl : ba < w.heap.size := (Array.getElem?_eq_some_iff.1 HA.out).1
       have hbl2 : bb < w.heap.size := (Array.getElem?_eq_some_iff.1 HB.out).1
       have keep3 : ∀ q, q < base → q < w1.heap.size → w3.heap[q]? = w1.heap[q]? := fun q hq hl => (hg3.block q (by simp; omega) (PxR.own_far HO1.out (Or.inl hq))).trans ((Below.heap_alloc _ _ q (by simp; omega)).trans (Below.heap_alloc _ _ q hl))
       have keepq : w3.heap[w1.heap.size]? = some (.cells #[.int .u64 r1, .int .u64 r2] 44 (0, 0)) := (hg3.block _ (by simp; omega) (PxR.own_far HO1.out (Or.inr (Nat.le_refl _)))).trans ((Below.heap_alloc _ _ _ (by simp)).trans (heap_alloc_new w1 _))
       have hq3 := (keep3 bb l2 (by omega)).trans HQ.out
       have ha3 := (keep3 ba l1 (by omega)).trans HA1.out
       have f3 : w3.frozen? ⟨bb, 0, none⟩ = false := blk_frozen hq3 0
       have c3 : w3.cell? ⟨bb, 0, none⟩ = some v := (blk_cell hq3 0).trans rfl
       obtain ⟨bq, hbq⟩ : ∃ bq, w1.heap.size = bq := ⟨_, rfl⟩
       rw [hbq] at keepq
       have e0 : ∀ x, (w3.setCell ⟨bb, 0, none⟩ x).cell? ⟨bq, 0, none⟩ = some (.int .u64 r1) := fun x => (blk_cell (blk_far keepq (by show _ ≠ bb; omega) x) 0).trans rfl
       have e1 : ∀ x, (w3.setCell ⟨bb, 0, none⟩ x).cell? ⟨bq, 1, none⟩ = some (.int .u64 r2) := fun x => (blk_cell (blk_far keepq (by show _ ≠ bb; omega) x) 1).trans rfl
       have g0 : ∀ x, (w3.setCell ⟨bb, 0, none⟩ x).cell? ⟨ba, 0, none⟩ = some (.int .u64 hi) := fun x => (blk_cell (blk_far ha3 (by show ba ≠ bb; omega) x) 0).trans rfl
       have g1 : ∀ x, (w3.setCell ⟨bb, 0, none⟩ x).cell? ⟨ba, 1, none⟩ = some (.int .u64 lo) := fun x => (blk_cell (blk_far ha3 (by show ba ≠ bb; omega) x) 1).trans rfl
       have h0 : ∀ x, (w3.setCell ⟨bb, 0, none⟩ x).frozen? ⟨ba, 0, none⟩ = false := fun x => blk_frozen (blk_far ha3 (by show ba ≠ bb; omega) x) 0
       have h1 : ∀ x, (w3.setCell ⟨bb, 0, none⟩ x).frozen? ⟨ba, 1, none⟩ = false := fun x => blk_frozen (blk_far ha3 (by show ba ≠ bb; omega) x) 1
       rw [hbq]
       obtain ⟨g', cap', rfl⟩ : ∃ g' cap', v' = .slice (some ⟨g', 0, none⟩) (out.length + 1) cap' := by
         rcases hown'.2 with ⟨_, h0⟩ | ⟨g', cap', _, h', _⟩
         · exact absurd h0 (by omega)
         · exact ⟨g', cap', h'⟩
       have HG3 := Lib.hid hg3
       have HW3 := Lib.hid hown'
       have HQ3 := Lib.hid hq3
       have HA3 := Lib.hid ha3
       have HBQ := Lib.hid hbq
       clear hg3 hown' hq3 ha3 hbq keepq keep3 hnil3
       go_frame))
    | (go_at_call 42; (refine (HC.out _).mono ?_; rintro e w4 ⟨rfl, hb4⟩; have HB4 := Lib.hid hb4; clear hb4)))
  go_ret
  have l5 : bb < w.heap.size := by omega
  have l6 : ba < w.heap.size := by omega
  have hA := blk_set (blk_set (blk_far (p := ⟨bb, 0, none⟩) HA3.out (by show ba ≠ bb; omega) (.slice (some ⟨g', 0, none⟩) (out.length + 1) cap')) 0 (.int .u64 r1)) 1 (.int .u64 r2)
  have hB := blk_far (blk_far (blk_set HQ3.out 0 (.slice (some ⟨g', 0, none⟩) (out.length + 1) cap')) (show bb ≠ ba by omega) (.int .u64 r1) (p := ⟨ba, 0, none⟩)) (show bb ≠ ba by omega) (.int .u64 r2) (p := ⟨ba, 1, none⟩)
  have hO := ((HW3.out.kept (PxR.grown_set w3 ⟨bb, 0, none⟩ (.slice (some ⟨g', 0, none⟩) (out.length + 1) cap')) (PxR.own_ne HW3.out (Or.inl l2))).kept (PxR.grown_set _ ⟨ba, 0, none⟩ (.int .u64 r1)) (PxR.own_ne (HW3.out.kept (PxR.grown_set w3 ⟨bb, 0, none⟩ (.slice (some ⟨g', 0, none⟩) (out.length + 1) cap')) (PxR.own_ne HW3.out (Or.inl l2))) (Or.inl l1)))
  have hO2 := hO.kept (PxR.grown_set _ ⟨ba, 1, none⟩ (.int .u64 r2)) (PxR.own_ne hO (Or.inl l1))
  refine ⟨rfl, by simpa using blk_below hA HB4.out, ⟨_, by simpa using blk_below hB HB4.out, by simpa [digOf] using PxR.own_below hO2 HB4.out⟩, fun B h1 h2 => ?_⟩
  have z3 : B ≤ w3.heap.size := by have := HG3.out.size; simp at this; omega
  have k1 : Below B w w3 := (((HB1.out.mono (by omega)).alloc (by omega) _).alloc (by simp; omega) _).grown HG3.out (by simp; omega) (fun k e => by have := PxR.own_lt HO.out e; omega)
  exact (((k1.setCell (p := ⟨bb, 0, none⟩) h2 _).setCell (p := ⟨ba, 0, none⟩) h1 _).setCell (p := ⟨ba, 1, none⟩) h1 _).trans (HB4.out.mono (by simp; omega))
def wide_Text.f (k : Nat) (a0_0 a0_1 : Int) : Option ByteArray := (textGo k a0_0 a0_1 []).bind fun l => (slices_Reverse__byte_byte.f k l).bind fun r => some (strOfNums r)
theorem wide_Text.mono : ∀ a0 a1 k, LeO (wide_Text.f k a0 a1) (wide_Text.f (k + 1) a0 a1) := by
  intro a0 a1 k
  unfold wide_Text.f
  exact LeO.bind (textGo_mono k _ _ _) (fun l => LeO.bind (slices_Reverse__byte_byte.mono _ k) (fun _ => LeO.refl _))
theorem own_R8 {W : World} {base base' e : Nat} {v : Value} {xs : List Int} (h : W.ownsRow base e 1 v xs.length (xs.map (Value.int .u8))) (hb : base' ≤ base) : Kd.R (Kd.int .u8) e W base' (fun k => base ≤ k) v xs := by
  refine ⟨fun k hk => (PxR.own_lt h hk).1, xs.map (Value.int .u8), ⟨h.1, ?_⟩, by show (xs.map (Value.int .u8)).length = xs.length * 1; simp, fun j p hp => ?_⟩
  · rcases h.2 with h' | ⟨g, cap, cur, h1, h2, h3⟩
    · exact .inl h'
    · exact .inr ⟨g, cap, cur, h1, Nat.le_trans hb h2, h3⟩
  · obtain ⟨hj, rfl⟩ := List.getElem?_eq_some_iff.1 hp
    show List.take 1 (List.drop (j * 1) (xs.map (Value.int .u8))) = [Value.int .u8 xs[j]]
    rw [Nat.mul_one, List.drop_eq_getElem_cons (by simpa using hj)]; simp
set_option maxHeartbeats 4000000 in
set_option maxRecDepth 100000 in
theorem wide_Text.calls (k : Nat) (a0_0 a0_1 : Int) (r : ByteArray) (w : World) (h : wide_Text.f k a0_0 a0_1 = some r) :
    Calls Try.prog 37 #[.agg #[.int .u64 a0_0, .int .u64 a0_1]] w fun e w' => e = .returned (.string r) ∧ Below w.heap.size w w' := by
  have hu := Try.underlying44
  unfold wide_Text.f at h
  obtain ⟨l, hl, h1⟩ := Option.bind_eq_some_iff.mp h
  obtain ⟨rv, hrv, h2⟩ := Option.bind_eq_some_iff.mp h1
  have HE := Lib.hid (Option.some.inj h2)
  have HL := Lib.hid hl
  have HRV := Lib.hid hrv
  clear h h1 h2 hl hrv
  go_enter Try.func37, Try.ntmps37
  go_wp2
  go_step3
  go_wp2
  go_step3
  obtain ⟨b, hb0⟩ : ∃ b, w.heap.size = b := ⟨_, rfl⟩
  obtain ⟨wa, hwa⟩ : ∃ wa, (w.alloc (.cells #[.int .u64 a0_0, .int .u64 a0_1] 44)).alloc (.cells #[.slice none 0 0] 118) = wa := ⟨_, rfl⟩
  have ga0 : wa.heap[b]? = some (.cells #[.int .u64 a0_0, .int .u64 a0_1] 44 (0, 0)) := by
    rw [← hwa, ← hb0]; exact (Below.heap_alloc _ _ _ (by simp)).trans (by simpa using heap_alloc_new w _)
  have gb0 : wa.heap[b + 1]? = some (.cells #[.slice none 0 0] 118 (0, 0)) := by
    rw [← hwa, ← hb0]; have := heap_alloc_new (w.alloc (.cells #[.int .u64 a0_0, .int .u64 a0_1] 44)) (.cells #[.slice none 0 0] 118); rw [World.size_alloc] at this; simpa using this
  have hB0 : Below w.heap.size w wa := by rw [← hwa]; exact below_alloc (below_alloc (Below.refl _ _) _) _
  have hsz : b + 2 ≤ wa.heap.size := by rw [← hwa, ← hb0]; simp
  rw [hwa, hb0]
  have HB0 := Lib.hid hb0
  have GA0 := Lib.hid ga0
  have GB0 := Lib.hid gb0
  have HBW := Aside0.mk hB0
  clear ga0 gb0 hB0 hwa hb0
  try simp only [Exit.then]
  go_wp2
  go_loopg [8] k (fun kq _ wr => ∃ (hi lo : Int) (out : List Int) (v : Value), Hid (wr.heap[b]? = some (.cells #[.int .u64 hi, .int .u64 lo] 44 (0, 0))) ∧ Hid (wr.heap[b + 1]? = some (.cells #[v] 118 (0, 0))) ∧ Hid (wr.ownsRow (b + 2) 5 1 v out.length (out.map (Value.int .u8))) ∧ Hid (textGo kq hi lo out = some l) ∧ Aside0 (kq ≤ k) ∧ b + 2 ≤ wr.heap.size ∧ Aside0 (Below w.heap.size w wr))
  case atStart => exact ⟨a0_0, a0_1, [], .slice none 0 0, GA0, GB0, ⟨by simp, .inl ⟨rfl, rfl⟩⟩, HL, ⟨Nat.le_refl _⟩, hsz, HBW⟩
  case round =>
    obtain ⟨hi, lo, out, v, GA, GB, GO, HG, HK1, hs1, HB⟩ := hrel
    cases gk with
    | zero => exact absurd HG.out (by simp [textGo])
    | succ k1 =>
      have hg := HG.out
      clear HG
      unfold textGo at hg
      obtain ⟨⟨q1, q2, q3, q4⟩, hd, hg1⟩ := Option.bind_eq_some_iff.mp hg
      by_cases hlen : out.length < 10000000000000
      · simp only [hlen, if_true] at hg1
        obtain ⟨s, hs, hg2⟩ := Option.bind_eq_some_iff.mp hg1
        have HN := Lib.hid (textNext.calls k1 b (b + 1) (b + 2) hi lo q1 q2 q3 s q4 out v wr GA.out GB.out GO.out (by omega) (by omega) hs1 (by omega) hd hs hlen)
        have HS2 := Lib.hid hg2
        clear hg hg1 hd hs hg2
        by_cases h0 : s > 0
        · have hd0 : decide (s > 0) = true := decide_eq_true h0
          rw [hd0] at HN
          have H0 := Lib.hid h0
          clear h0 hd0
          go_wp2_with (go_at_call 79; refine HN.out.mono ?_; rintro e w1 ⟨rfl, ha1, ⟨v1, hb1, ho1⟩, hbl⟩; have GA1 := Lib.hid ha1; have GB1 := Lib.hid hb1; have GO1 := Lib.hid ho1; have GL1 := Lib.hid (hbl b (Nat.le_refl _) (by omega)); have hs2 : b + 2 ≤ w1.heap.size := Nat.le_trans hs1 (hbl b (Nat.le_refl _) (by omega)).size; clear ha1 hb1 ho1 hbl)
          go_roundg k1
          case measure => have := HK1.out; omega
          case rel =>
            have hz := HS2.out
            rw [if_pos H0.out] at hz
            exact ⟨q1, q2, out ++ [digOf q3], v1, GA1, GB1, by have := GO1.out; rw [show (out ++ [digOf q3]).length = out.length + 1 by simp]; exact this, hz, ⟨by have := HK1.out; omega⟩, hs2, ⟨HB.out.trans (GL1.out.mono (by have := HB0.out; omega))⟩⟩
        · have hd0 : decide (s > 0) = false := decide_eq_false h0
          rw [hd0] at HN
          have hz := HS2.out
          rw [if_neg h0] at hz
          have HZ := Lib.hid (Option.some.inj hz)
          clear h0 hd0 hz
          go_wp2_with (first
            | (go_at_call 79; (
               refine HN.out.mono ?_; rintro e w1 ⟨rfl, ha1, ⟨v1, hb1, ho1⟩, hbl⟩
               have GB1 := Lib.hid hb1
               have c1 : w1.cell? ⟨b + 1, 0, none⟩ = some v1 := (blk_cell hb1 0).trans rfl
               have ho2 : w1.ownsRow (b + 2) 5 1 v1 l.length (l.map (Value.int .u8)) := by rw [← HZ.out, show (out ++ [digOf q3]).length = out.length + 1 by simp]; exact ho1
               have GO1 := Lib.hid (own_R8 ho2 (show w.heap.size ≤ b + 2 by have := HB0.out; omega))
               have GL1 := Lib.hid (HB.out.trans ((hbl b (Nat.le_refl _) (by omega)).mono (show w.heap.size ≤ b by have := HB0.out; omega)))
               have hs2 : b + 2 ≤ w1.heap.size := Nat.le_trans hs1 (hbl b (Nat.le_refl _) (by omega)).size
               clear ha1 hb1 ho1 hbl ho2))
            | (go_at_call 80; (
               refine (slices_Reverse__byte_byte.calls k (fun k => b + 2 ≤ k) _ l rv w _ GL1.out GO1.out HRV.out).mono ?_; rintro e w2 ⟨rfl, ho2, hb2, hk2⟩
               have hq := (hk2.2 (b + 1) (by omega) (by omega)).trans GB1.out
               have c2 : w2.cell? ⟨b + 1, 0, none⟩ = some v1 := (blk_cell hq 0).trans rfl
               have hcv := own_string (P := Try.prog) Try.underlying118 Try.underlying5 Try.underlying9 (Kd.own_of_R ho2)
               have HB2 := Lib.hid hb2
               clear ho2 hb2 hk2 hq)))
          try rw [Exit.noGoto_ret]
          go_ret
          exact ⟨by rw [← HE.out]; rfl, HB2.out⟩
      · simp only [hlen, if_false] at hg1; cases hg1

/-! ### bits_Mul64: function 84 -/
def bits_Mul64.f (a0 : Int) (a1 : Int) : Option (Int × Int) := some (IntKind.u64.wrap ((IntKind.u64.wrap ((IntKind.u64.wrap ((a0 / 4294967296) * (a1 / 4294967296))) + ((IntKind.u64.wrap ((IntKind.u64.wrap ((a0 / 4294967296) * (Go.bits .and .u64 a1 4294967295))) + ((IntKind.u64.wrap ((Go.bits .and .u64 a0 4294967295) * (Go.bits .and .u64 a1 4294967295))) / 4294967296))) / 4294967296))) + ((IntKind.u64.wrap ((Go.bits .and .u64 (IntKind.u64.wrap ((IntKind.u64.wrap ((a0 / 4294967296) * (Go.bits .and .u64 a1 4294967295))) + ((IntKind.u64.wrap ((Go.bits .and .u64 a0 4294967295) * (Go.bits .and .u64 a1 4294967295))) / 4294967296))) 4294967295) + (IntKind.u64.wrap ((Go.bits .and .u64 a0 4294967295) * (a1 / 4294967296))))) / 4294967296)), IntKind.u64.wrap (a0 * a1))
set_option maxHeartbeats 8000000 in
set_option maxRecDepth 100000 in
theorem bits_Mul64.calls (a0 : Int) (a1 : Int) (r1 : Int) (r2 : Int) (w : World) (h : bits_Mul64.f a0 a1 = some (r1, r2)) :
    Calls Try.prog 84 #[.int .u64 a0, .int .u64 a1] w fun e w' => e = .returned (.tuple #[.int .u64 r1, .int .u64 r2]) ∧ Drawn0 w w' := by
  have H : (some (IntKind.u64.wrap ((IntKind.u64.wrap ((IntKind.u64.wrap ((a0 / 4294967296) * (a1 / 4294967296))) + ((IntKind.u64.wrap ((IntKind.u64.wrap ((a0 / 4294967296) * (Go.bits .and .u64 a1 4294967295))) + ((IntKind.u64.wrap ((Go.bits .and .u64 a0 4294967295) * (Go.bits .and .u64 a1 4294967295))) / 4294967296))) / 4294967296))) + ((IntKind.u64.wrap ((Go.bits .and .u64 (IntKind.u64.wrap ((IntKind.u64.wrap ((a0 / 4294967296) * (Go.bits .and .u64 a1 4294967295))) + ((IntKind.u64.wrap ((Go.bits .and .u64 a0 4294967295) * (Go.bits .and .u64 a1 4294967295))) / 4294967296))) 4294967295) + (IntKind.u64.wrap ((Go.bits .and .u64 a0 4294967295) * (a1 / 4294967296))))) / 4294967296)), IntKind.u64.wrap (a0 * a1))) = some (r1, r2) := h
  clear h
  simp only [Option.some.injEq, Prod.mk.injEq] at H
  obtain ⟨rfl, rfl⟩ := H
  go_enter Try.func84, Try.ntmps84
  go_wp2
  go_ret2
  exact ⟨by first | rfl | (simp; done) | (simp only [i64_w]; done) | (simp [*]; done), by repeat (first | exact Drawn0.refl _ | apply Drawn0.step)⟩

/-! ### wide_Mul: function 43 -/
def wide_Mul.f (a0 : Int) (a1 : Int) : Option (Int × Int) := (bits_Mul64.f a0 a1).bind fun bt123 => (some (bt123.1, bt123.2))
set_option maxHeartbeats 8000000 in
set_option maxRecDepth 100000 in
theorem wide_Mul.calls (a0 : Int) (a1 : Int) (r1 : Int) (r2 : Int) (w : World) (h : wide_Mul.f a0 a1 = some (r1, r2)) :
    Calls Try.prog 43 #[.int .u64 a0, .int .u64 a1] w fun e w' => e = .returned (.agg #[.int .u64 r1, .int .u64 r2]) ∧ Below w.heap.size w w' := by
  have hu44 := Try.underlying44
  have HB := Aside0.mk (Below.refl w.heap.size w)
  have H : ((bits_Mul64.f a0 a1).bind fun bt123 => (some (bt123.1, bt123.2))) = some (r1, r2) := h
  clear h
  replace H := Option.bind_eq_some_iff.mp H
  obtain ⟨⟨t123, t124⟩, A30, H⟩ := H
  replace H : (some (t123, t124)) = some (r1, r2) := H
  have A3 := Aside0.mk A30
  clear A30
  simp only [Option.some.injEq, Prod.mk.injEq] at H
  obtain ⟨rfl, rfl⟩ := H
  go_enter Try.func43, Try.ntmps43
  go_wp2_with (first | ((with_reducible refine gate_dst (N := 4) rfl ?_); refine box_event ?hg (N := 4) ?hd (cs := #[.int .u64 0, .int .u64 0]) (t := 44) ?hr ?_; (case hd => rfl); (case hg => rfl); (case hr => first | (go_simp; done) | (go_simp; rfl)); intro gb122 hg w4 hbox hb; have n0_ := Aside0.mk (below_step (by repeat (first | (with_reducible first | exact HB.out | apply below_alloc | apply pw_below_drewN | apply below_drew1) | exact HB.out)) hb); have n1_ := Aside0.mk (hbox); have n2_ := Aside0.mk ((by rw [hg]; exact (below_size (by repeat (first | (with_reducible first | exact HB.out | apply below_alloc | apply pw_below_drewN | apply below_drew1) | exact HB.out))) : w.heap.size ≤ gb122)); have n3_ := Aside0.mk ((by rw [hg]; exact (below_size (by repeat (first | (with_reducible first | exact HB.out | apply below_alloc | apply pw_below_drewN | apply below_drew1) | exact HB.out))) : w.heap.size ≤ gb122)); clear HB; have HB := n0_; have BK122 := n1_; have GW122 := n2_; have GE122 := n3_; clear n0_ n1_ n2_ n3_; clear hb hbox hg) | ((with_reducible refine gate_callee (f := 84) rfl ?_); refine goesL_ (some 10) rfl rfl Try.func84 (by kernel_rfl) rfl #[.int .u64 a0, .int .u64 a1] rfl (by (try simp only [List.map_toArray, List.map_cons, List.map_nil]); first | done | rfl | (simp only [List.length_drop, List.length_take]; rfl)) ?_; (with_reducible refine (bits_Mul64.calls a0 a1 t123 t124 _ A3.out).mono ?_); rintro e w' ⟨rfl, ⟨nd, rfl⟩⟩; refine ⟨_, rfl, ?_⟩; (try (rw [drewN_self w4]; generalize hq_ : World.drewN w4 _ = w4; have n0_ : Aside0 (w4.heap[gb122]? = some (.cells #[.int .u64 0, .int .u64 0] 44 (0, 0))) := ⟨by rw [← hq_]; exact (by (with_reducible repeat (first | refine blk_drewN ?_ _ | refine blk_drew ?_ | refine blk_alloc ?_ _)); exact BK122.out)⟩; have n1_ : Aside0 (Below w.heap.size w w4) := ⟨by rw [← hq_]; exact (by repeat (first | (with_reducible first | exact HB.out | apply below_alloc | apply pw_below_drewN | apply below_drew1 | refine below_set ?_ GE122.out) | exact HB.out))⟩; clear BK122 HB hq_; have BK122 := n0_; have HB := n1_; clear n0_ n1_)); have hcz5_0 : w4.cell? ⟨gb122, 0, none⟩ = some (.int .u64 0) := (blk_cell BK122.out 0).trans rfl; have hcz5_1 : w4.cell? ⟨gb122, 1, none⟩ = some (.int .u64 0) := (blk_cell BK122.out 1).trans rfl; have hfz5_0 := blk_frozen BK122.out 0; have hfz5_1 := blk_frozen BK122.out 1))
  refine bodyPost_ret (results_cell_row rfl _ _ gb122 44 #[.int .u64 t123, .int .u64 t124] (0, 0) _ rfl (by (with_reducible repeat (first | refine blk_drewN ?_ _ | refine blk_drew ?_ | refine blk_alloc ?_ _)); refine blk_put (cs := #[.int .u64 t123, .int .u64 0]) ?_ 1 _ rfl; (with_reducible repeat (first | refine blk_drewN ?_ _ | refine blk_drew ?_ | refine blk_alloc ?_ _)); refine blk_put (cs := #[.int .u64 0, .int .u64 0]) ?_ 0 _ rfl; (with_reducible repeat (first | refine blk_drewN ?_ _ | refine blk_drew ?_ | refine blk_alloc ?_ _)); exact BK122.out) Try.underlying44 rfl (by kernel_rfl)) rfl ?_
  exact ⟨by first | rfl | (simp [errW_none, errW_some] <;> rfl) | (simp [*, errW_none, errW_some] <;> rfl), by repeat (first | (with_reducible first | exact HB.out | apply below_alloc | apply pw_below_drewN | apply below_drew1 | refine below_set ?_ GE122.out) | exact HB.out)⟩

/-! ### wide_Less: function 39 -/
def wide_Less.f (k : Nat) (a0 : Int) (a1 : Int) (a2 : Int) (a3 : Int) : Option (Bool) := if a1 = 0 then (some false) else (if a3 = 0 then (some false) else ((wide_Mul.f a0 a3).bind fun bt125 => ((wide_Mul.f a2 a1).bind fun bt127 => ((wide_Cmp.f k bt125.1 bt125.2 bt127.1 bt127.2).bind fun t129 => (some (decide (t129 < 0)))))))
theorem wide_Less.mono : ∀ a0 a1 a2 a3 k, LeO (wide_Less.f k a0 a1 a2 a3) (wide_Less.f (k + 1) a0 a1 a2 a3) := by
  intro a0 a1 a2 a3 k
  unfold wide_Less.f
  repeat' first
      | (with_reducible exact wide_Cmp.mono _ _ _ _ _)
      | (with_reducible exact LeO.refl _)
      | (with_reducible exact LeO.none _)
      | (with_reducible refine LeO.ite ?_ ?_)
      | (with_reducible refine LeO.bind ?_ (fun _ => ?_))
      | exact wide_Cmp.mono _ _ _ _ _
      | exact LeO.none _
      | refine LeO.ite ?_ ?_
      | refine LeO.bind ?_ (fun _ => ?_)
set_option maxHeartbeats 8000000 in
set_option maxRecDepth 100000 in
theorem wide_Less.calls (k : Nat) (a0 : Int) (a1 : Int) (a2 : Int) (a3 : Int) (r : Bool) (w : World) (h : wide_Less.f k a0 a1 a2 a3 = some r) :
    Calls Try.prog 39 #[.int .u64 a0, .int .u64 a1, .int .u64 a2, .int .u64 a3] w fun e w' => e = .returned (.bool r) ∧ Below w.heap.size w w' := by
  have HB := Aside0.mk (Below.refl w.heap.size w)
  have H : (if a1 = 0 then (some false) else (if a3 = 0 then (some false) else ((wide_Mul.f a0 a3).bind fun bt125 => ((wide_Mul.f a2 a1).bind fun bt127 => ((wide_Cmp.f k bt125.1 bt125.2 bt127.1 bt127.2).bind fun t129 => (some (decide (t129 < 0)))))))) = some r := h
  clear h
  by_cases c5 : a1 = 0
  · rw [if_pos c5] at H
    have c5b0 : (a1 == 0) = true := beq_iff_eq.mpr c5
    have c5b1 : (a1 != 0) = false := bne_eq_false_iff_eq.mpr c5
    clear c5
    obtain rfl := Option.some.inj H
    go_enter Try.func39, Try.ntmps39
    go_wp2
    go_ret
    exact ⟨by first | rfl | (simp [errW_none, errW_some] <;> rfl) | (simp [*, errW_none, errW_some] <;> rfl), by repeat (first | (with_reducible first | exact HB.out | apply below_alloc | apply pw_below_drewN | apply below_drew1) | exact HB.out)⟩
  · rw [if_neg c5] at H
    have c5b0 : (a1 == 0) = false := beq_eq_false_iff_ne.mpr c5
    have c5b1 : (a1 != 0) = true := bne_iff_ne.mpr c5
    by_cases c6 : a3 = 0
    · rw [if_pos c6] at H
      have c6b0 : (a3 == 0) = true := beq_iff_eq.mpr c6
      have c6b1 : (a3 != 0) = false := bne_eq_false_iff_eq.mpr c6
      clear c6
      obtain rfl := Option.some.inj H
      go_enter Try.func39, Try.ntmps39
      go_wp2
      go_ret
      exact ⟨by first | rfl | (simp [errW_none, errW_some] <;> rfl) | (simp [*, errW_none, errW_some] <;> rfl), by repeat (first | (with_reducible first | exact HB.out | apply below_alloc | apply pw_below_drewN | apply below_drew1) | exact HB.out)⟩
    · rw [if_neg c6] at H
      have c6b0 : (a3 == 0) = false := beq_eq_false_iff_ne.mpr c6
      have c6b1 : (a3 != 0) = true := bne_iff_ne.mpr c6
      replace H := Option.bind_eq_some_iff.mp H
      obtain ⟨⟨t125, t126⟩, A70, H⟩ := H
      replace H : ((wide_Mul.f a2 a1).bind fun bt127 => ((wide_Cmp.f k t125 t126 bt127.1 bt127.2).bind fun t129 => (some (decide (t129 < 0))))) = some r := H
      have A7 := Aside0.mk A70
      clear A70
      replace H := Option.bind_eq_some_iff.mp H
      obtain ⟨⟨t127, t128⟩, A80, H⟩ := H
      replace H : ((wide_Cmp.f k t125 t126 t127 t128).bind fun t129 => (some (decide (t129 < 0)))) = some r := H
      have A8 := Aside0.mk A80
      clear A80
      replace H := Option.bind_eq_some_iff.mp H
      obtain ⟨t129, A90, H⟩ := H
      replace H : (some (decide (t129 < 0))) = some r := H
      have A9 := Aside0.mk A90
      clear A90
      obtain rfl := Option.some.inj H
      go_enter Try.func39, Try.ntmps39
      go_wp2_with (first | (go_at_call 43; (with_reducible refine (wide_Mul.calls a0 a3 t125 t126 _ A7.out).mono ?_); rintro e w10 ⟨rfl, hb⟩; have n0_ := Aside0.mk (below_step (by repeat (first | (with_reducible first | exact HB.out | apply below_alloc | apply pw_below_drewN | apply below_drew1) | exact HB.out)) hb); clear HB; have HB := n0_; clear n0_; (try clear hb); (try clear hb2); (try clear hk); (try clear hi)) | (go_at_call 43; (with_reducible refine (wide_Mul.calls a2 a1 t127 t128 _ A8.out).mono ?_); rintro e w11 ⟨rfl, hb⟩; have n0_ := Aside0.mk (below_step (by repeat (first | (with_reducible first | exact HB.out | apply below_alloc | apply pw_below_drewN | apply below_drew1) | exact HB.out)) hb); clear HB; have HB := n0_; clear n0_; (try clear hb); (try clear hb2); (try clear hk); (try clear hi)) | (go_at_call 42; (with_reducible refine (wide_Cmp.calls k t125 t126 t127 t128 t129 _ A9.out).mono ?_); rintro e w12 ⟨rfl, hb⟩; have n0_ := Aside0.mk (below_step (by repeat (first | (with_reducible first | exact HB.out | apply below_alloc | apply pw_below_drewN | apply below_drew1) | exact HB.out)) hb); clear HB; have HB := n0_; clear n0_; (try clear hb); (try clear hb2); (try clear hk); (try clear hi)))
      go_ret
      exact ⟨by first | rfl | (simp [errW_none, errW_some] <;> rfl) | (simp [*, errW_none, errW_some] <;> rfl), by repeat (first | (with_reducible first | exact HB.out | apply below_alloc | apply pw_below_drewN | apply below_drew1) | exact HB.out)⟩

/-! ### horariumlaw01_awake: function 34 -/
def horariumlaw01_awake.f (k : Nat)  : Option (Bool) := (wide_Mul.f 18446744073709551615 18446744073709551615).bind fun bt130 => ((wide_Text.f k bt130.1 bt130.2).bind fun t132 => (if t132.toList = ([51, 52, 48, 50, 56, 50, 51, 54, 54, 57, 50, 48, 57, 51, 56, 52, 54, 51, 52, 50, 54, 52, 56, 49, 49, 49, 57, 50, 56, 52, 51, 52, 57, 49, 48, 56, 50, 50, 53] : List UInt8) then ((wide_Less.f k 333333333 1000000000 1 3).bind fun t133 => (if t133 = true then ((wide_Text.f k 0 0).bind fun t134 => (some (t134.toList == ([48] : List UInt8)))) else (some false))) else (some false)))
theorem horariumlaw01_awake.mono : ∀ k, LeO (horariumlaw01_awake.f k ) (horariumlaw01_awake.f (k + 1) ) := by
  intro  k
  unfold horariumlaw01_awake.f
  repeat' first
      | (with_reducible exact wide_Less.mono _ _ _ _ _)
      | (with_reducible exact wide_Text.mono _ _ _)
      | (with_reducible exact LeO.refl _)
      | (with_reducible exact LeO.none _)
      | (with_reducible refine LeO.ite ?_ ?_)
      | (with_reducible refine LeO.bind ?_ (fun _ => ?_))
      | exact wide_Less.mono _ _ _ _ _
      | exact wide_Text.mono _ _ _
      | exact LeO.none _
      | refine LeO.ite ?_ ?_
      | refine LeO.bind ?_ (fun _ => ?_)
set_option maxHeartbeats 8000000 in
set_option maxRecDepth 100000 in
theorem horariumlaw01_awake.calls (k : Nat)  (r : Bool) (w : World) (h : horariumlaw01_awake.f k  = some r) :
    Calls Try.prog 34 #[] w fun e w' => e = .returned (.bool r) ∧ Below w.heap.size w w' := by
  have hu44 := Try.underlying44
  have HB := Aside0.mk (Below.refl w.heap.size w)
  have H : ((wide_Mul.f 18446744073709551615 18446744073709551615).bind fun bt130 => ((wide_Text.f k bt130.1 bt130.2).bind fun t132 => (if t132.toList = ([51, 52, 48, 50, 56, 50, 51, 54, 54, 57, 50, 48, 57, 51, 56, 52, 54, 51, 52, 50, 54, 52, 56, 49, 49, 49, 57, 50, 56, 52, 51, 52, 57, 49, 48, 56, 50, 50, 53] : List UInt8) then ((wide_Less.f k 333333333 1000000000 1 3).bind fun t133 => (if t133 = true then ((wide_Text.f k 0 0).bind fun t134 => (some (t134.toList == ([48] : List UInt8)))) else (some false))) else (some false)))) = some r := h
  clear h
  replace H := Option.bind_eq_some_iff.mp H
  obtain ⟨⟨t130, t131⟩, A10, H⟩ := H
  replace H : ((wide_Text.f k t130 t131).bind fun t132 => (if t132.toList = ([51, 52, 48, 50, 56, 50, 51, 54, 54, 57, 50, 48, 57, 51, 56, 52, 54, 51, 52, 50, 54, 52, 56, 49, 49, 49, 57, 50, 56, 52, 51, 52, 57, 49, 48, 56, 50, 50, 53] : List UInt8) then ((wide_Less.f k 333333333 1000000000 1 3).bind fun t133 => (if t133 = true then ((wide_Text.f k 0 0).bind fun t134 => (some (t134.toList == ([48] : List UInt8)))) else (some false))) else (some false))) = some r := H
  have A1 := Aside0.mk A10
  clear A10
  replace H := Option.bind_eq_some_iff.mp H
  obtain ⟨t132, A20, H⟩ := H
  replace H : (if t132.toList = ([51, 52, 48, 50, 56, 50, 51, 54, 54, 57, 50, 48, 57, 51, 56, 52, 54, 51, 52, 50, 54, 52, 56, 49, 49, 49, 57, 50, 56, 52, 51, 52, 57, 49, 48, 56, 50, 50, 53] : List UInt8) then ((wide_Less.f k 333333333 1000000000 1 3).bind fun t133 => (if t133 = true then ((wide_Text.f k 0 0).bind fun t134 => (some (t134.toList == ([48] : List UInt8)))) else (some false))) else (some false)) = some r := H
  have A2 := Aside0.mk A20
  clear A20
  by_cases c3 : t132.toList = ([51, 52, 48, 50, 56, 50, 51, 54, 54, 57, 50, 48, 57, 51, 56, 52, 54, 51, 52, 50, 54, 52, 56, 49, 49, 49, 57, 50, 56, 52, 51, 52, 57, 49, 48, 56, 50, 50, 53] : List UInt8)
  · rw [if_pos c3] at H
    have c3b0 : (t132.toList == ([51, 52, 48, 50, 56, 50, 51, 54, 54, 57, 50, 48, 57, 51, 56, 52, 54, 51, 52, 50, 54, 52, 56, 49, 49, 49, 57, 50, 56, 52, 51, 52, 57, 49, 48, 56, 50, 50, 53] : List UInt8)) = true := beq_iff_eq.mpr c3
    have c3b1 : (t132.toList != ([51, 52, 48, 50, 56, 50, 51, 54, 54, 57, 50, 48, 57, 51, 56, 52, 54, 51, 52, 50, 54, 52, 56, 49, 49, 49, 57, 50, 56, 52, 51, 52, 57, 49, 48, 56, 50, 50, 53] : List UInt8)) = false := bne_eq_false_iff_eq.mpr c3
    clear c3
    replace H := Option.bind_eq_some_iff.mp H
    obtain ⟨t133, A40, H⟩ := H
    replace H : (if t133 = true then ((wide_Text.f k 0 0).bind fun t134 => (some (t134.toList == ([48] : List UInt8)))) else (some false)) = some r := H
    have A4 := Aside0.mk A40
    clear A40
    by_cases c5 : t133 = true
    · subst c5
      have H1 : ((wide_Text.f k 0 0).bind fun t134 => (some (t134.toList == ([48] : List UInt8)))) = some r := by rw [if_pos rfl] at H; exact H
      clear H
      have H := H1
      clear H1
      replace H := Option.bind_eq_some_iff.mp H
      obtain ⟨t134, A60, H⟩ := H
      replace H : (some (t134.toList == ([48] : List UInt8))) = some r := H
      have A6 := Aside0.mk A60
      clear A60
      obtain rfl := Option.some.inj H
      go_enter Try.func34, Try.ntmps34
      go_wp2_with (first | ((with_reducible refine gate_callee (f := 43) rfl ?_); refine goesL_ (some 1) rfl rfl Try.func43 (by kernel_rfl) rfl #[.int .u64 18446744073709551615, .int .u64 18446744073709551615] rfl (by (try simp only [List.map_toArray, List.map_cons, List.map_nil]); first | done | rfl | (simp only [List.length_drop, List.length_take]; rfl)) ?_; (with_reducible refine (wide_Mul.calls 18446744073709551615 18446744073709551615 t130 t131 _ A1.out).mono ?_); rintro e w7 ⟨rfl, hb⟩; refine ⟨_, rfl, ?_⟩; have n0_ := Aside0.mk (below_step (by repeat (first | (with_reducible first | exact HB.out | apply below_alloc | apply pw_below_drewN | apply below_drew1) | exact HB.out)) hb); clear HB; have HB := n0_; clear n0_; (try clear hb); (try clear hb2); (try clear hk); (try clear hi)) | ((with_reducible refine gate_callee (f := 37) rfl ?_); refine goesL_ (some 2) rfl rfl Try.func37 (by kernel_rfl) rfl #[.agg #[.int .u64 t130, .int .u64 t131]] rfl (by (try simp only [List.map_toArray, List.map_cons, List.map_nil]); first | done | rfl | (simp only [List.length_drop, List.length_take]; rfl)) ?_; (with_reducible refine (wide_Text.calls k t130 t131 t132 _ A2.out).mono ?_); rintro e w8 ⟨rfl, hb⟩; refine ⟨_, rfl, ?_⟩; have n0_ := Aside0.mk (below_step (by repeat (first | (with_reducible first | exact HB.out | apply below_alloc | apply pw_below_drewN | apply below_drew1) | exact HB.out)) hb); clear HB; have HB := n0_; clear n0_; (try clear hb); (try clear hb2); (try clear hk); (try clear hi)) | (go_at_call 39; (with_reducible refine (wide_Less.calls k 333333333 1000000000 1 3 true _ A4.out).mono ?_); rintro e w9 ⟨rfl, hb⟩; have n0_ := Aside0.mk (below_step (by repeat (first | (with_reducible first | exact HB.out | apply below_alloc | apply pw_below_drewN | apply below_drew1) | exact HB.out)) hb); clear HB; have HB := n0_; clear n0_; (try clear hb); (try clear hb2); (try clear hk); (try clear hi)) | (go_at_call 37; (with_reducible refine (wide_Text.calls k 0 0 t134 _ A6.out).mono ?_); rintro e w10 ⟨rfl, hb⟩; have n0_ := Aside0.mk (below_step (by repeat (first | (with_reducible first | exact HB.out | apply below_alloc | apply pw_below_drewN | apply below_drew1) | exact HB.out)) hb); clear HB; have HB := n0_; clear n0_; (try clear hb); (try clear hb2); (try clear hk); (try clear hi)))
      go_ret
      exact ⟨by first | rfl | (simp [errW_none, errW_some] <;> rfl) | (simp [*, errW_none, errW_some] <;> rfl), by repeat (first | (with_reducible first | exact HB.out | apply below_alloc | apply pw_below_drewN | apply below_drew1) | exact HB.out)⟩
    · replace c5 := Bool.eq_false_iff.mpr c5
      subst c5
      have H1 : (some false) = some r := by rw [if_neg (show ¬ (false = true) by decide)] at H; exact H
      clear H
      have H := H1
      clear H1
      obtain rfl := Option.some.inj H
      go_enter Try.func34, Try.ntmps34
      go_wp2_with (first | ((with_reducible refine gate_callee (f := 43) rfl ?_); refine goesL_ (some 1) rfl rfl Try.func43 (by kernel_rfl) rfl #[.int .u64 18446744073709551615, .int .u64 18446744073709551615] rfl (by (try simp only [List.map_toArray, List.map_cons, List.map_nil]); first | done | rfl | (simp only [List.length_drop, List.length_take]; rfl)) ?_; (with_reducible refine (wide_Mul.calls 18446744073709551615 18446744073709551615 t130 t131 _ A1.out).mono ?_); rintro e w11 ⟨rfl, hb⟩; refine ⟨_, rfl, ?_⟩; have n0_ := Aside0.mk (below_step (by repeat (first | (with_reducible first | exact HB.out | apply below_alloc | apply pw_below_drewN | apply below_drew1) | exact HB.out)) hb); clear HB; have HB := n0_; clear n0_; (try clear hb); (try clear hb2); (try clear hk); (try clear hi)) | ((with_reducible refine gate_callee (f := 37) rfl ?_); refine goesL_ (some 2) rfl rfl Try.func37 (by kernel_rfl) rfl #[.agg #[.int .u64 t130, .int .u64 t131]] rfl (by (try simp only [List.map_toArray, List.map_cons, List.map_nil]); first | done | rfl | (simp only [List.length_drop, List.length_take]; rfl)) ?_; (with_reducible refine (wide_Text.calls k t130 t131 t132 _ A2.out).mono ?_); rintro e w12 ⟨rfl, hb⟩; refine ⟨_, rfl, ?_⟩; have n0_ := Aside0.mk (below_step (by repeat (first | (with_reducible first | exact HB.out | apply below_alloc | apply pw_below_drewN | apply below_drew1) | exact HB.out)) hb); clear HB; have HB := n0_; clear n0_; (try clear hb); (try clear hb2); (try clear hk); (try clear hi)) | (go_at_call 39; (with_reducible refine (wide_Less.calls k 333333333 1000000000 1 3 false _ A4.out).mono ?_); rintro e w13 ⟨rfl, hb⟩; have n0_ := Aside0.mk (below_step (by repeat (first | (with_reducible first | exact HB.out | apply below_alloc | apply pw_below_drewN | apply below_drew1) | exact HB.out)) hb); clear HB; have HB := n0_; clear n0_; (try clear hb); (try clear hb2); (try clear hk); (try clear hi)))
      go_ret
      exact ⟨by first | rfl | (simp [errW_none, errW_some] <;> rfl) | (simp [*, errW_none, errW_some] <;> rfl), by repeat (first | (with_reducible first | exact HB.out | apply below_alloc | apply pw_below_drewN | apply below_drew1) | exact HB.out)⟩
  · rw [if_neg c3] at H
    have c3b0 : (t132.toList == ([51, 52, 48, 50, 56, 50, 51, 54, 54, 57, 50, 48, 57, 51, 56, 52, 54, 51, 52, 50, 54, 52, 56, 49, 49, 49, 57, 50, 56, 52, 51, 52, 57, 49, 48, 56, 50, 50, 53] : List UInt8)) = false := beq_eq_false_iff_ne.mpr c3
    have c3b1 : (t132.toList != ([51, 52, 48, 50, 56, 50, 51, 54, 54, 57, 50, 48, 57, 51, 56, 52, 54, 51, 52, 50, 54, 52, 56, 49, 49, 49, 57, 50, 56, 52, 51, 52, 57, 49, 48, 56, 50, 50, 53] : List UInt8)) = true := bne_iff_ne.mpr c3
    obtain rfl := Option.some.inj H
    go_enter Try.func34, Try.ntmps34
    go_wp2_with (first | ((with_reducible refine gate_callee (f := 43) rfl ?_); refine goesL_ (some 1) rfl rfl Try.func43 (by kernel_rfl) rfl #[.int .u64 18446744073709551615, .int .u64 18446744073709551615] rfl (by (try simp only [List.map_toArray, List.map_cons, List.map_nil]); first | done | rfl | (simp only [List.length_drop, List.length_take]; rfl)) ?_; (with_reducible refine (wide_Mul.calls 18446744073709551615 18446744073709551615 t130 t131 _ A1.out).mono ?_); rintro e w14 ⟨rfl, hb⟩; refine ⟨_, rfl, ?_⟩; have n0_ := Aside0.mk (below_step (by repeat (first | (with_reducible first | exact HB.out | apply below_alloc | apply pw_below_drewN | apply below_drew1) | exact HB.out)) hb); clear HB; have HB := n0_; clear n0_; (try clear hb); (try clear hb2); (try clear hk); (try clear hi)) | ((with_reducible refine gate_callee (f := 37) rfl ?_); refine goesL_ (some 2) rfl rfl Try.func37 (by kernel_rfl) rfl #[.agg #[.int .u64 t130, .int .u64 t131]] rfl (by (try simp only [List.map_toArray, List.map_cons, List.map_nil]); first | done | rfl | (simp only [List.length_drop, List.length_take]; rfl)) ?_; (with_reducible refine (wide_Text.calls k t130 t131 t132 _ A2.out).mono ?_); rintro e w15 ⟨rfl, hb⟩; refine ⟨_, rfl, ?_⟩; have n0_ := Aside0.mk (below_step (by repeat (first | (with_reducible first | exact HB.out | apply below_alloc | apply pw_below_drewN | apply below_drew1) | exact HB.out)) hb); clear HB; have HB := n0_; clear n0_; (try clear hb); (try clear hb2); (try clear hk); (try clear hi)))
    go_ret
    exact ⟨by first | rfl | (simp [errW_none, errW_some] <;> rfl) | (simp [*, errW_none, errW_some] <;> rfl), by repeat (first | (with_reducible first | exact HB.out | apply below_alloc | apply pw_below_drewN | apply below_drew1) | exact HB.out)⟩

end Go.Proofs.Ytbkjoojfpmokaaa.PWideParts
