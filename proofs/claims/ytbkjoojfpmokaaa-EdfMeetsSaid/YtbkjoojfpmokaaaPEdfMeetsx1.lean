-- Made by px.py (a program of this session, over the kit's printer) out of the translation. Not trusted: Lean checks it.
import Derived.Test.YtbkjoojfpmokaaaPEdfMeetsx0
namespace Go.Proofs.Ytbkjoojfpmokaaa.PEdfMeets
open Go.RowKit Go.Proofs.YtbkjoojfpmokaaaW.PrintWords Go.Proofs.YtbkjoojfpmokaaaW.PrintLast Go.Proofs.YtbkjoojfpmokaaaW.PrintMore
attribute [local go_sem] max2_int min2_int max_two min_two max_three min_three max_four min_four   -- for this text's walks alone
set_option linter.unusedVariables false
set_option linter.unusedSimpArgs false

/-! ### horariumlaw18_awake: function 44 (by hand) -/
def sgn (a b : Int) : Int := if a < b then -1 else if b < a then 1 else 0
set_option maxRecDepth 100000 in
theorem nan64.calls (a : Int) (w : World) : Calls Try.prog 115 #[.int .i64 a] w fun e w' => e = .returned (.bool false) ∧ w = w' := by
  go_enter Try.func115, Try.ntmps115
  go_wp2
  go_ret
  exact ⟨rfl, rfl⟩
set_option maxRecDepth 100000 in
theorem nani.calls (a : Int) (w : World) : Calls Try.prog 116 #[.int .i64 a] w fun e w' => e = .returned (.bool false) ∧ w = w' := by
  go_enter Try.func116, Try.ntmps116
  go_wp2
  go_ret
  exact ⟨rfl, rfl⟩
set_option maxRecDepth 100000 in
theorem cmp64.calls (a b : Int) (w : World) : Calls Try.prog 106 #[.int .i64 a, .int .i64 b] w fun e w' => e = .returned (.int .i64 (sgn a b)) ∧ w = w' := by
  by_cases h1 : a < b
  · have hs : sgn a b = -1 := by unfold sgn; rw [if_pos h1]
    rw [hs]
    go_enter Try.func106, Try.ntmps106
    go_wp2_with (go_at_call 115; refine (nan64.calls _ _).mono ?_; rintro e w1 ⟨rfl, rfl⟩)
    go_ret
    exact ⟨rfl, rfl⟩
  · by_cases h2 : b < a
    · have hs : sgn a b = 1 := by unfold sgn; rw [if_neg h1, if_pos h2]
      rw [hs]
      go_enter Try.func106, Try.ntmps106
      go_wp2_with (go_at_call 115; refine (nan64.calls _ _).mono ?_; rintro e w1 ⟨rfl, rfl⟩)
      go_ret
      exact ⟨rfl, rfl⟩
    · have hs : sgn a b = 0 := by unfold sgn; rw [if_neg h1, if_neg h2]
      rw [hs]
      go_enter Try.func106, Try.ntmps106
      go_wp2_with (go_at_call 115; refine (nan64.calls _ _).mono ?_; rintro e w1 ⟨rfl, rfl⟩)
      go_ret
      exact ⟨rfl, rfl⟩
set_option maxRecDepth 100000 in
theorem cmpi.calls (a b : Int) (w : World) : Calls Try.prog 107 #[.int .i64 a, .int .i64 b] w fun e w' => e = .returned (.int .i64 (sgn a b)) ∧ w = w' := by
  by_cases h1 : a < b
  · have hs : sgn a b = -1 := by unfold sgn; rw [if_pos h1]
    rw [hs]
    go_enter Try.func107, Try.ntmps107
    go_wp2_with (go_at_call 116; refine (nani.calls _ _).mono ?_; rintro e w1 ⟨rfl, rfl⟩)
    go_ret
    exact ⟨rfl, rfl⟩
  · by_cases h2 : b < a
    · have hs : sgn a b = 1 := by unfold sgn; rw [if_neg h1, if_pos h2]
      rw [hs]
      go_enter Try.func107, Try.ntmps107
      go_wp2_with (go_at_call 116; refine (nani.calls _ _).mono ?_; rintro e w1 ⟨rfl, rfl⟩)
      go_ret
      exact ⟨rfl, rfl⟩
    · have hs : sgn a b = 0 := by unfold sgn; rw [if_neg h1, if_neg h2]
      rw [hs]
      go_enter Try.func107, Try.ntmps107
      go_wp2_with (go_at_call 116; refine (nani.calls _ _).mono ?_; rintro e w1 ⟨rfl, rfl⟩)
      go_ret
      exact ⟨rfl, rfl⟩
set_option maxHeartbeats 4000000 in
set_option maxRecDepth 100000 in
theorem or2.calls (ad : Addr) (c : Nat) (x y : Int) (w : World) (h0 : w.cell? (ad.add 0) = some (.int .i64 x)) (h1 : w.cell? (ad.add 1) = some (.int .i64 y)) : Calls Try.prog 82 #[.slice (some ad) 2 c] w fun e w' => e = .returned (.int .i64 (if x = 0 then y else x)) ∧ w = w' := by
  have h0' : w.cell? ad = some (.int .i64 x) := by simpa [Addr.add] using h0
  have h1' := h1
  simp [Addr.add] at h1'
  go_enter Try.func82, Try.ntmps82
  go_wp2
  go_loopg [8] 4 (fun k v8 wr => ∃ i : Nat, v8 = .int .i64 (i : Int) ∧ i ≤ 2 ∧ 2 - i < k ∧ (1 ≤ i → x = 0) ∧ (2 ≤ i → y = 0) ∧ w = wr)
  case atStart => exact ⟨0, rfl, by omega, by omega, by omega, by omega, rfl⟩
  case round =>
    obtain ⟨i, rfl, hi, hk, hx, hy, rfl⟩ := hrel
    by_cases i0 : i = 0
    · subst i0
      clear hx hy
      by_cases hx0 : x = 0
      · subst hx0
        go_wp2
        go_roundg 2
        case measure => omega
        case rel => exact ⟨1, rfl, by omega, by omega, by simp, by omega, rfl⟩
      · go_wp2
        go_ret
        exact ⟨by simp [hx0], rfl⟩
    · by_cases i1 : i = 1
      · subst i1
        have hx0 := hx (by omega)
        subst hx0
        clear hx hy
        by_cases hy0 : y = 0
        · subst hy0
          go_wp2
          go_roundg 1
          case measure => omega
          case rel => exact ⟨2, rfl, by omega, by omega, by simp, by simp, rfl⟩
        · go_wp2
          go_ret
          exact ⟨by simp, rfl⟩
      · obtain rfl : i = 2 := by omega
        have hx0 := hx (by omega)
        have hy0 := hy (by omega)
        subst hx0
        subst hy0
        clear hx hy
        go_wp2
        go_ret
        exact ⟨by simp, rfl⟩
def jlt (a b : S65) : Bool := decide (a.f2 < b.f2 ∨ (a.f2 = b.f2 ∧ a.f0 < b.f0))
theorem jlt_wo : Hm.WO jlt := ⟨fun a b h => by unfold jlt at *; have h := of_decide_eq_true h; exact decide_eq_false (by omega), fun a b c h1 h2 => by unfold jlt at *; have h1 := of_decide_eq_false h1; have h2 := of_decide_eq_false h2; exact decide_eq_false (by omega)⟩
def or2V (x y : Int) : Int := if x = 0 then y else x
theorem or2v.calls (ad : Addr) (c : Nat) (x y : Int) (w : World) (h0 : w.cell? (ad.add 0) = some (.int .i64 x)) (h1 : w.cell? (ad.add 1) = some (.int .i64 y)) : Calls Try.prog 82 #[.slice (some ad) 2 c] w fun e w' => e = .returned (.int .i64 (or2V x y)) ∧ w = w' := or2.calls ad c x y w h0 h1
theorem sgn_jlt (x y : S65) : decide (or2V (sgn x.f2 y.f2) (sgn x.f0 y.f0) < 0) = jlt x y := by
  unfold jlt or2V sgn
  rw [Bool.eq_iff_iff]
  simp only [decide_eq_true_eq]
  split <;> split <;> (try split) <;> (try split) <;> (try split) <;> omega
def lessJ.T1 : Bool × List (List Nat × List Nat) := (true, [([], []), ([0], [0]), ([], []), ([2], [2]), ([1, 3], [1, 3]), ([], []), ([5], [5]), ([], []), ([7], [7]), ([6, 8, 4], [6, 8]), ([4, 9], [4, 9]), ([10, 9], [10]), ([11], [11]), ([12, 11, 0, 1, 2, 3, 4, 5, 6, 7, 8, 9, 10, 11, 12], [12])])
def lessJ.B1 : List Nat := [0, 1, 0, 4, 15, 0, 32, 0, 128, 511, 1023, 2047, 4095, 8191]
theorem lessJ.tab1 : rtab .any (opsOf Try.f86 1) = lessJ.T1 := by kernel_rfl
theorem lessJ.bits1 : waitsOk lessJ.T1.2 lessJ.B1 = true := by kernel_rfl
set_option maxHeartbeats 8000000 in
set_option maxRecDepth 100000 in
theorem lessJ.calls (x y : S65) (w : World) : Calls Try.prog 86 #[.agg #[.int .i64 x.f0, .int .i64 x.f1, .int .i64 x.f2, .int .i64 x.f3], .agg #[.int .i64 y.f0, .int .i64 y.f1, .int .i64 y.f2, .int .i64 y.f3]] w fun e w' => e = .returned (.bool (jlt x y)) ∧ Below w.heap.size w w' := by
  go_enter Try.func86, Try.ntmps86
  go_wp2
  obtain ⟨W, hW⟩ : ∃ W, (w.alloc (.cells #[.int .i64 x.f0, .int .i64 x.f1, .int .i64 x.f2, .int .i64 x.f3] 65)).alloc (.cells #[.int .i64 y.f0, .int .i64 y.f1, .int .i64 y.f2, .int .i64 y.f3] 65) = W := ⟨_, rfl⟩
  have hx : W.heap[w.heap.size]? = some (.cells #[.int .i64 x.f0, .int .i64 x.f1, .int .i64 x.f2, .int .i64 x.f3] 65 (0, 0)) := by rw [← hW]; exact blk_alloc (heap_alloc_new w _) _
  have hy : W.heap[w.heap.size + 1]? = some (.cells #[.int .i64 y.f0, .int .i64 y.f1, .int .i64 y.f2, .int .i64 y.f3] 65 (0, 0)) := by rw [← hW]; simpa using heap_alloc_new (w.alloc (.cells #[.int .i64 x.f0, .int .i64 x.f1, .int .i64 x.f2, .int .i64 x.f3] 65)) (.cells #[.int .i64 y.f0, .int .i64 y.f1, .int .i64 y.f2, .int .i64 y.f3] 65)
  have hb : Below w.heap.size w W := by rw [← hW]; exact below_alloc (below_alloc (Below.refl _ _) _) _
  rw [hW]
  clear hW
  have HX := Lib.hid (blk_drew hx)
  have HY := Lib.hid (blk_drew hy)
  have HB := Lib.hid (below_drew1 hb)
  clear hx hy hb
  obtain ⟨b0, hb0⟩ : ∃ n, w.heap.size + 1 = n := ⟨_, rfl⟩
  rw [hb0] at HY ⊢
  obtain ⟨a0, ha0⟩ : ∃ n, w.heap.size = n := ⟨_, rfl⟩
  rw [ha0] at HX ⊢
  clear ha0 hb0
  refine start_ (n := 14) (S := fun w' => w'.cell? ⟨a0, 2, none⟩ = some (.int .i64 x.f2) ∧ w'.cell? ⟨b0, 2, none⟩ = some (.int .i64 y.f2) ∧ w'.cell? ⟨a0, 0, none⟩ = some (.int .i64 x.f0) ∧ w'.cell? ⟨b0, 0, none⟩ = some (.int .i64 y.f0)) (ds := []) #[false, false, false, false, false, false, false, false, false, false, false, false, false, false] (by kernel_rfl) rfl rfl ⟨(blk_cell HX.out 2).trans rfl, (blk_cell HY.out 2).trans rfl, (blk_cell HX.out 0).trans rfl, (blk_cell HY.out 0).trans rfl⟩ (fun hHeld => ?_); refine with_tabW lessJ.tab1 lessJ.bits1 (fun HT_ HW_ => ?_)
  generalize W.drew = w1 at HX HY HB hHeld ⊢
  refine pure_ (i := 0) (N := some 5) (v := ?_) (a' := ?_) #[true, false, false, false, false, false, false, false, false, false, false, false, false, false] rfl rfl (any_of HT_.out (by kernel_rfl)) (fun _ _ _ h => h) (Or.inl ⟨by rfl, ?_⟩) ?_ ?_
  rotate_left
  · intro w'
    go_simp
    with_reducible rfl
  rotate_left
  · simp only [Act.put, List.setIfInBounds_toArray, List.set_cons_zero, List.set_cons_succ, i64_w, i32_w]
    rfl
  refine take_ (i := 1) (N := some 6) (v := ?_) (a' := ?_) #[true, true, false, false, false, false, false, false, false, false, false, false, false, false] rfl rfl (take_ofW HT_.out HW_.out (by kernel_rfl)) (fun _ _ _ h => h) (Or.inl ⟨by rfl, ?_⟩) hHeld ?_ ?_
  rotate_left
  · rintro w' ⟨s0, s1, s2, s3⟩
    go_simp
    with_reducible rfl
  rotate_left
  · simp only [Act.put, List.setIfInBounds_toArray, List.set_cons_zero, List.set_cons_succ, i64_w, i32_w]
    rfl
  refine pure_ (i := 2) (N := some 7) (v := ?_) (a' := ?_) #[true, true, true, false, false, false, false, false, false, false, false, false, false, false] rfl rfl (any_of HT_.out (by kernel_rfl)) (fun _ _ _ h => h) (Or.inl ⟨by rfl, ?_⟩) ?_ ?_
  rotate_left
  · intro w'
    go_simp
    with_reducible rfl
  rotate_left
  · simp only [Act.put, List.setIfInBounds_toArray, List.set_cons_zero, List.set_cons_succ, i64_w, i32_w]
    rfl
  refine take_ (i := 3) (N := some 8) (v := ?_) (a' := ?_) #[true, true, true, true, false, false, false, false, false, false, false, false, false, false] rfl rfl (take_ofW HT_.out HW_.out (by kernel_rfl)) (fun _ _ _ h => h) (Or.inl ⟨by rfl, ?_⟩) hHeld ?_ ?_
  rotate_left
  · rintro w' ⟨s0, s1, s2, s3⟩
    go_simp
    with_reducible rfl
  rotate_left
  · simp only [Act.put, List.setIfInBounds_toArray, List.set_cons_zero, List.set_cons_succ, i64_w, i32_w]
    rfl
  refine pure_ (i := 5) (N := some 10) (v := ?_) (a' := ?_) #[true, true, true, true, false, true, false, false, false, false, false, false, false, false] rfl rfl (any_of HT_.out (by kernel_rfl)) (fun _ _ _ h => h) (Or.inl ⟨by rfl, ?_⟩) ?_ ?_
  rotate_left
  · intro w'
    go_simp
    with_reducible rfl
  rotate_left
  · simp only [Act.put, List.setIfInBounds_toArray, List.set_cons_zero, List.set_cons_succ, i64_w, i32_w]
    rfl
  refine take_ (i := 6) (N := some 11) (v := ?_) (a' := ?_) #[true, true, true, true, false, true, true, false, false, false, false, false, false, false] rfl rfl (take_ofW HT_.out HW_.out (by kernel_rfl)) (fun _ _ _ h => h) (Or.inl ⟨by rfl, ?_⟩) hHeld ?_ ?_
  rotate_left
  · rintro w' ⟨s0, s1, s2, s3⟩
    go_simp
    with_reducible rfl
  rotate_left
  · simp only [Act.put, List.setIfInBounds_toArray, List.set_cons_zero, List.set_cons_succ, i64_w, i32_w]
    rfl
  refine pure_ (i := 7) (N := some 12) (v := ?_) (a' := ?_) #[true, true, true, true, false, true, true, true, false, false, false, false, false, false] rfl rfl (any_of HT_.out (by kernel_rfl)) (fun _ _ _ h => h) (Or.inl ⟨by rfl, ?_⟩) ?_ ?_
  rotate_left
  · intro w'
    go_simp
    with_reducible rfl
  rotate_left
  · simp only [Act.put, List.setIfInBounds_toArray, List.set_cons_zero, List.set_cons_succ, i64_w, i32_w]
    rfl
  refine take_ (i := 8) (N := some 13) (v := ?_) (a' := ?_) #[true, true, true, true, false, true, true, true, true, false, false, false, false, false] rfl rfl (take_ofW HT_.out HW_.out (by kernel_rfl)) (fun _ _ _ h => h) (Or.inl ⟨by rfl, ?_⟩) hHeld ?_ ?_
  rotate_left
  · rintro w' ⟨s0, s1, s2, s3⟩
    go_simp
    with_reducible rfl
  rotate_left
  · simp only [Act.put, List.setIfInBounds_toArray, List.set_cons_zero, List.set_cons_succ, i64_w, i32_w]
    rfl
  refine one_ (i := 4) (N := some 9) #[true, true, true, true, true, true, true, true, true, false, false, false, false, false] rfl rfl (one_of HT_.out (by kernel_rfl)) (by decide) (fun K hK => ?_)
  refine goes_ Try.func106 (by kernel_rfl) rfl #[.int .i64 x.f2, .int .i64 y.f2] (by rfl) rfl rfl (by (try simp only [List.map_toArray, List.map_cons, List.map_nil]); first | done | rfl) ?_
  refine (cmp64.calls _ _ w1).mono ?_
  rintro e w2 ⟨rfl, rfl⟩
  refine ⟨_, rfl, ?_⟩
  refine hK.out _ _ hHeld (fun hHeld => ?_)
  clear hK K
  refine norm_ (a' := ?_) ?_ ?_
  rotate_left
  · show Act.put _ (some 9) _ = _
    simp only [Act.put, List.setIfInBounds_toArray, List.set_cons_zero, List.set_cons_succ, i64_w, i32_w]
    rfl
  refine one_ (i := 9) (N := some 14) #[true, true, true, true, true, true, true, true, true, true, false, false, false, false] rfl rfl (one_of HT_.out (by kernel_rfl)) (by decide) (fun K hK => ?_)
  refine goes_ Try.func107 (by kernel_rfl) rfl #[.int .i64 x.f0, .int .i64 y.f0] (by rfl) rfl rfl (by (try simp only [List.map_toArray, List.map_cons, List.map_nil]); first | done | rfl) ?_
  refine (cmpi.calls _ _ w1).mono ?_
  rintro e w2 ⟨rfl, rfl⟩
  refine ⟨_, rfl, ?_⟩
  refine hK.out _ _ hHeld (fun hHeld => ?_)
  clear hK K
  refine norm_ (a' := ?_) ?_ ?_
  rotate_left
  · show Act.put _ (some 14) _ = _
    simp only [Act.put, List.setIfInBounds_toArray, List.set_cons_zero, List.set_cons_succ, i64_w, i32_w]
    rfl
  refine one_ (i := 10) (N := some 15) #[true, true, true, true, true, true, true, true, true, true, true, false, false, false] rfl rfl (one_of HT_.out (by kernel_rfl)) (by decide) (fun K hK => ?_)
  refine event_step (w1 := w1.alloc (.cells #[.int .i64 (sgn x.f2 y.f2), .int .i64 (sgn x.f0 y.f0)] 3)) (v := .slice (some ⟨w1.heap.size, 0, none⟩) 2 2) (by rfl) (by go_simp) ?_
  have HC := Lib.hid (heap_alloc_new w1 (.cells #[.int .i64 (sgn x.f2 y.f2), .int .i64 (sgn x.f0 y.f0)] 3))
  replace HX := Lib.hid (blk_alloc HX.out (.cells #[.int .i64 (sgn x.f2 y.f2), .int .i64 (sgn x.f0 y.f0)] 3))
  replace HY := Lib.hid (blk_alloc HY.out (.cells #[.int .i64 (sgn x.f2 y.f2), .int .i64 (sgn x.f0 y.f0)] 3))
  replace HB := Lib.hid (below_alloc HB.out (.cells #[.int .i64 (sgn x.f2 y.f2), .int .i64 (sgn x.f0 y.f0)] 3))
  obtain ⟨c0, hc0⟩ : ∃ b, w1.heap.size = b := ⟨_, rfl⟩
  rw [hc0] at HC ⊢
  generalize w1.alloc (.cells #[.int .i64 (sgn x.f2 y.f2), .int .i64 (sgn x.f0 y.f0)] 3) = w3 at HC HX HY HB ⊢
  refine hK.out _ _ ⟨(blk_cell HX.out 2).trans rfl, (blk_cell HY.out 2).trans rfl, (blk_cell HX.out 0).trans rfl, (blk_cell HY.out 0).trans rfl⟩ (fun hHeld => ?_)
  clear hK K
  refine norm_ (a' := ?_) ?_ ?_
  rotate_left
  · show Act.put _ (some 15) _ = _
    simp only [Act.put, List.setIfInBounds_toArray, List.set_cons_zero, List.set_cons_succ, i64_w, i32_w]
    rfl
  refine one_ (i := 11) (N := some 16) #[true, true, true, true, true, true, true, true, true, true, true, true, false, false] rfl rfl (one_of HT_.out (by kernel_rfl)) (by decide) (fun K hK => ?_)
  refine goes_ Try.func82 (by kernel_rfl) rfl #[.slice (some ⟨c0, 0, none⟩) 2 2] (by rfl) rfl rfl (by (try simp only [List.map_toArray, List.map_cons, List.map_nil]); first | done | rfl) ?_
  refine (or2v.calls ⟨c0, 0, none⟩ 2 _ _ w3 ((blk_cell HC.out 0).trans rfl) ((blk_cell HC.out 1).trans rfl)).mono ?_
  rintro e w4 ⟨rfl, rfl⟩
  refine ⟨_, rfl, ?_⟩
  refine hK.out _ _ hHeld (fun hHeld => ?_)
  clear hK K
  refine norm_ (a' := ?_) ?_ ?_
  rotate_left
  · show Act.put _ (some 16) _ = _
    simp only [Act.put, List.setIfInBounds_toArray, List.set_cons_zero, List.set_cons_succ, i64_w, i32_w]
    rfl
  refine pure_ (i := 12) (N := some 17) (v := ?_) (a' := ?_) #[true, true, true, true, true, true, true, true, true, true, true, true, true, false] rfl rfl (any_of HT_.out (by kernel_rfl)) (fun _ _ _ h => h) (Or.inl ⟨by rfl, ?_⟩) ?_ ?_
  rotate_left
  · intro w'
    go_simp
    with_reducible rfl
  rotate_left
  · simp only [Act.put, List.setIfInBounds_toArray, List.set_cons_zero, List.set_cons_succ, i64_w, i32_w]
    rfl
  refine pure_ (i := 13) (N := some 4) (v := ?_) (a' := ?_) #[true, true, true, true, true, true, true, true, true, true, true, true, true, true] rfl rfl (any_of HT_.out (by kernel_rfl)) (fun _ _ _ h => h) (Or.inl ⟨by rfl, ?_⟩) ?_ ?_
  rotate_left
  · intro w'
    go_simp
    with_reducible rfl
  rotate_left
  · simp only [Act.put, List.setIfInBounds_toArray, List.set_cons_zero, List.set_cons_succ, i64_w, i32_w]
    rfl
  refine done_ (done_of HT_.out (by kernel_rfl)) ?_
  go_wp2
  go_ret
  exact ⟨by rw [← sgn_jlt]; rfl, HB.out⟩
open Hm in
/-- A tree in memory. -/
def Nd (w : World) : Option Addr → HT S65 → Prop
  | p, .leaf => p = none
  | p, .node x l r => ∃ (b : Nat) (d : Int) (pl pr : Option Addr), p = some ⟨b, 0, none⟩ ∧ w.heap[b]? = some (.cells #[.int .i64 x.f0, .int .i64 x.f1, .int .i64 x.f2, .int .i64 x.f3, .int .i64 d, .pointer pl, .pointer pr] 148 (0, 0)) ∧ Nd w pl l ∧ Nd w pr r
open Hm in
theorem Nd.grown {w w' : World} {row : Option Nat} (hg : w.grownBy w' row) (hr : ∀ r cs, row = some r → w.heap[r]? ≠ some (.cells cs 148 (0, 0))) : ∀ {p : Option Addr} {t : HT S65}, Nd w p t → Nd w' p t
  | _, .leaf, h => h
  | _, .node x l r, h => by
    obtain ⟨b, d, pl, pr, h1, h2, h3, h4⟩ := h
    exact ⟨b, d, pl, pr, h1, blk_grown h2 hg (fun e => hr b _ e.symm h2), h3.grown hg hr, h4.grown hg hr⟩
open Hm in
theorem Nd.below {w w' : World} (hb : Below w.heap.size w w') {p : Option Addr} {t : HT S65} (h : Nd w p t) : Nd w' p t := h.grown (grown_of_below hb none) (fun r cs e => by cases e)
theorem Nd.drew {w : World} {p : Option Addr} {t : Hm.HT S65} (h : Nd w p t) : Nd w.drew p t := h.below (below_drew (Below.refl _ _))
theorem Nd.alloc {w : World} {p : Option Addr} {t : Hm.HT S65} (h : Nd w p t) (o : Obj) : Nd (w.alloc o) p t := h.below (below_alloc (Below.refl _ _) o)
open Hm in
theorem Nd.set {w : World} {g T : Nat} {cs : Array Value} (hg : w.heap[g]? = some (.cells cs T (0, 0))) (hT : T ≠ 148) (j : Nat) (u : Value) {p : Option Addr} {t : HT S65} (h : Nd w p t) : Nd (w.setCell ⟨g, j, none⟩ u) p t :=
  h.grown (PxR.grown_set w ⟨g, j, none⟩ u) (fun r cs' e h2 => by
    cases e
    rw [hg] at h2
    injection h2 with h2
    injection h2 with _ h2
    exact hT h2)
open Hm in
/-- A heap in memory, with the numbers of a row (in any order). -/
def HpP (w : World) (g : Nat) (L : List S65) : Prop := ∃ (v : Option Addr) (t : HT S65), w.heap[g]? = some (.cells #[.func (.func 86) #[] #[], .pointer v, .int .i64 (L.length : Int)] 143 (0, 0)) ∧ Nd w v t ∧ t.ord jlt ∧ t.toL.Perm L
open Hm in
theorem way.calls (v : Option Addr) (t : HT S65) (w : World) (h : Nd w v t) : ∃ d : Int, Calls Try.prog 117 #[.pointer v] w fun e w' => e = .returned (.int .i64 d) ∧ w = w' := by
  cases t with
  | leaf =>
    obtain rfl : v = none := h
    refine ⟨0, ?_⟩
    go_enter Try.func117, Try.ntmps117
    go_wp2
    go_ret
    exact ⟨rfl, rfl⟩
  | node x l r =>
    obtain ⟨b, d, vl, vr, rfl, h2, _, _⟩ := h
    refine ⟨d, ?_⟩
    have c1 : w.cell? ⟨b, 4, none⟩ = some (.int .i64 d) := (blk_cell h2 4).trans rfl
    clear h2
    go_enter Try.func117, Try.ntmps117
    go_wp2
    go_ret
    exact ⟨rfl, rfl⟩
theorem eqlFn_no {P : Program} (w : World) {t : TypeId} {x : TypeDesc} (f : Fn) (a b : Array Value) (h : P.underlying t = some x) (hx : ∃ p q r, x = .func p q r) : (binOp .eql t (.func f a b) .nilFunc).run P w = .ok (.bool false) w := by
  obtain ⟨p, q, r, rfl⟩ := hx
  have key1 : ∀ d, (Op.equalIn (d + 1) t (.func f a b) .nilFunc).run P w = .ok false w := by
    intro d; simp [Op.equalIn, run_underlying h]
  have key : (Op.equal t (.func f a b) .nilFunc).run P w = .ok false w := key1 9999
  simp only [binOp]
  simp [key]
theorem eqlFn_yes {P : Program} (w : World) {t : TypeId} {x : TypeDesc} (h : P.underlying t = some x) (hx : ∃ p q r, x = .func p q r) : (binOp .eql t .nilFunc .nilFunc).run P w = .ok (.bool true) w := by
  obtain ⟨p, q, r, rfl⟩ := hx
  have key1 : ∀ d, (Op.equalIn (d + 1) t .nilFunc .nilFunc).run P w = .ok true w := by
    intro d; simp [Op.equalIn, run_underlying h]
  have key : (Op.equal t .nilFunc .nilFunc).run P w = .ok true w := key1 9999
  simp only [binOp]
  simp [key]
theorem eqlLess_no (w : World) (f : Fn) (a b : Array Value) : (binOp .eql 125 (.func f a b) .nilFunc).run Try.prog w = .ok (.bool false) w := eqlFn_no w f a b Try.underlying125 ⟨_, _, _, rfl⟩
theorem eqlLess_yes (w : World) : (binOp .eql 125 .nilFunc .nilFunc).run Try.prog w = .ok (.bool true) w := eqlFn_yes w Try.underlying125 ⟨_, _, _, rfl⟩
attribute [local go_sem] eqlLess_no eqlLess_yes
set_option maxRecDepth 100000 in
theorem none_no.calls (g : Nat) (f v n : Value) (w : World) (hf : f = .func (.func 86) #[] #[]) (hg : w.heap[g]? = some (.cells #[f, v, n] 143 (0, 0))) : Calls Try.prog 108 #[.pointer (some ⟨g, 0, none⟩)] w fun e w' => e = .returned (.bool false) ∧ w = w' := by
  subst hf
  have c0 : w.cell? ⟨g, 0, none⟩ = some (.func (.func 86) #[] #[]) := (blk_cell hg 0).trans rfl
  clear hg
  go_enter Try.func108, Try.ntmps108
  go_wp2
  go_ret
  exact ⟨rfl, rfl⟩
set_option maxRecDepth 100000 in
theorem new.calls (w : World) : Calls Try.prog 85 #[.func (.func 86) #[] #[]] w fun e w' => ∃ g, e = .returned (.pointer (some ⟨g, 0, none⟩)) ∧ w.heap.size ≤ g ∧ HpP w' g [] ∧ Below w.heap.size w w' := by
  go_enter Try.func85, Try.ntmps85
  go_wp2
  go_ret
  exact ⟨w.heap.size, rfl, Nat.le_refl _, ⟨_, .leaf, heap_alloc_new w _, rfl, trivial, List.Perm.refl _⟩, below_alloc (Below.refl _ _) _⟩
theorem goesv_ {P : Program} {ops : Array Oper} {Q : Exit → Act → World → Prop} {oi : Oper} {N : Option Tmp} {a : Act} {w : World} {K : Act → World → Prop} {f : FuncId} {fn : Func} {as_ : Array Operand} {ts : Array TypeId} (hf : P.funcs[f]? = some fn) (hname : (fn.name == "runtime.NumGoroutine") = false) (hb : fn.body.isSome = true) (c : Operand) (bound : Array Value) (args : Array Value)
    (hc : a.eval c = .func (.func f) #[] bound) (hw : Region.wanted oi (yielded ops a.tmps) = true) (hN : oi.dst = N) (hop : oi.op = .call { callee := .value c, args := as_, argTypes := ts }) (hargs : as_.map a.eval ++ bound = args)
    (h : Calls P f args w fun e w' => ∃ v, e = .returned v ∧ K (a.put N v) w') : if Region.wanted oi (yielded ops a.tmps) = true then Oper.wp P oi a w K Q else K (a.put N undef) w := by
  refine call_ f args hw hN ?_ h
  have he := enters_ hf hname hb args w
  unfold execOp
  simp [hop, hc, resolve, Deferred.ofValue, invoke, hargs, he]
def meld.T5 : Bool × List (List Nat × List Nat) := (true, [([], []), ([0], [0]), ([1], [1]), ([2], [2]), ([], []), ([4], [4]), ([5], [5]), ([6], [6]), ([], []), ([8], [8]), ([9], [9]), ([10], [10]), ([3, 7, 11], [3, 7, 11]), ([12, 12], [12])])
def meld.B5 : List Nat := [0, 1, 3, 7, 0, 16, 48, 112, 0, 256, 768, 1792, 4095, 8191]
theorem meld.tab5 : rtab .any (opsOf Try.f109 5) = meld.T5 := by kernel_rfl
theorem meld.bits5 : waitsOk meld.T5.2 meld.B5 = true := by kernel_rfl
def meld.T7 : Bool × List (List Nat × List Nat) := (true, [([], []), ([0], [0]), ([1], [1]), ([2], [2]), ([], []), ([], []), ([5], [5]), ([6], [6]), ([7], [7]), ([], []), ([4, 8, 9], [4, 8, 9]), ([3, 10, 0, 1, 2, 3], [3]), ([10, 11, 0, 1, 2, 3, 4, 5, 6, 7, 8, 9, 10, 11], [10])])
def meld.B7 : List Nat := [0, 1, 3, 7, 0, 0, 32, 96, 224, 0, 1008, 2047, 4095]
theorem meld.tab7 : rtab .any (opsOf Try.f109 7) = meld.T7 := by kernel_rfl
theorem meld.bits7 : waitsOk meld.T7.2 meld.B7 = true := by kernel_rfl
def meld.T10 : Bool × List (List Nat × List Nat) := (true, [([], []), ([0], [0]), ([1], [1]), ([2], [2]), ([], []), ([4], [4]), ([5], [5]), ([], []), ([], []), ([3, 6, 7, 8], [3, 6, 7, 8]), ([9], [9]), ([10, 5, 0, 1, 2, 3, 4, 5, 6, 7, 8, 9, 10], [10])])
def meld.B10 : List Nat := [0, 1, 3, 7, 0, 16, 48, 0, 0, 511, 1023, 2047]
theorem meld.tab10 : rtab .any (opsOf Try.f109 10) = meld.T10 := by kernel_rfl
theorem meld.bits10 : waitsOk meld.T10.2 meld.B10 = true := by kernel_rfl
open Hm in
set_option maxHeartbeats 8000000 in
set_option maxRecDepth 100000 in
theorem meld.calls (g : Nat) (v0 n0 : Value) : ∀ (m : Nat) (a b : HT S65) (va vb : Option Addr) (w : World), 2 * (a.toL.length + b.toL.length) + HT.sw jlt a b ≤ m → w.heap[g]? = some (.cells #[.func (.func 86) #[] #[], v0, n0] 143 (0, 0)) → Nd w va a → Nd w vb b → a.ord jlt → b.ord jlt →
    Calls Try.prog 109 #[.pointer (some ⟨g, 0, none⟩), .pointer va, .pointer vb] w fun e w' => ∃ (v : Option Addr) (t : HT S65), e = .returned (.pointer v) ∧ Nd w' v t ∧ t.ord jlt ∧ t.toL.Perm (a.toL ++ b.toL) ∧ Below w.heap.size w w' := by
  intro m
  induction m with
  | zero =>
    intro a b va vb w hm hg ha hb oa ob
    have ea : a = .leaf := by cases a with | leaf => rfl | node x l r => simp [HT.toL] at hm; omega
    subst ea
    obtain rfl : va = none := ha
    have HB := Lib.hid hb
    have OB := Lib.hid ob
    clear hb oa ob hm hg
    go_enter Try.func109, Try.ntmps109
    go_wp2
    go_ret
    exact ⟨_, b, rfl, HB.out, OB.out, by simp [HT.toL], Below.refl _ _⟩
  | succ m ih =>
    intro a b va vb w hm hg ha hb oa ob
    cases a with
    | leaf =>
      obtain rfl : va = none := ha
      have HB := Lib.hid hb
      have OB := Lib.hid ob
      clear hb oa ob hm hg ih
      go_enter Try.func109, Try.ntmps109
      go_wp2
      go_ret
      exact ⟨_, b, rfl, HB.out, OB.out, by simp [HT.toL], Below.refl _ _⟩
    | node x l r =>
    obtain ⟨ba, da, val, var, rfl, hba, hal, har⟩ := ha
    cases b with
    | leaf =>
      obtain rfl : vb = none := hb
      have HA := Lib.hid (show Nd w (some ⟨ba, 0, none⟩) (.node x l r) from ⟨ba, da, val, var, rfl, hba, hal, har⟩)
      have OA := Lib.hid oa
      clear hba hal har oa ob hm hg ih
      go_enter Try.func109, Try.ntmps109
      go_wp2
      go_ret
      exact ⟨_, .node x l r, rfl, HA.out, OA.out, by simp [HT.toL], Below.refl _ _⟩
    | node y bl br =>
    obtain ⟨bb, db, vbl, vbr, rfl, hbb, hbl, hbr⟩ := hb
    have HBA := Lib.hid hba
    have HBB := Lib.hid hbb
    have HG := Lib.hid hg
    have HAL := Lib.hid hal
    have HAR := Lib.hid har
    have NB := Lib.hid (show Nd w (some ⟨bb, 0, none⟩) (.node y bl br) from ⟨bb, db, vbl, vbr, rfl, hbb, hbl, hbr⟩)
    have NA := Lib.hid (show Nd w (some ⟨ba, 0, none⟩) (.node x l r) from ⟨ba, da, val, var, rfl, hba, hal, har⟩)
    have OA := Lib.hid oa
    have OB := Lib.hid ob
    cases hlt : jlt y x with
    | true =>
      have hm2 : 2 * ((HT.node y bl br).toL.length + (HT.node x l r).toL.length) + HT.sw jlt (HT.node y bl br) (HT.node x l r) ≤ m := by
        simp only [HT.sw, hlt, if_true] at hm ⊢
        rw [if_neg (by rw [jlt_wo.asym _ _ hlt]; simp)]
        omega
      have HI := Lib.hid (fun (W : World) (hG : W.heap[g]? = some (.cells #[.func (.func 86) #[] #[], v0, n0] 143 (0, 0))) (hA : Nd W (some ⟨ba, 0, none⟩) (.node x l r)) (hB : Nd W (some ⟨bb, 0, none⟩) (.node y bl br)) => ih (.node y bl br) (.node x l r) (some ⟨bb, 0, none⟩) (some ⟨ba, 0, none⟩) W hm2 hG hB hA OB.out OA.out)
      have HL := Lib.hid hlt
      clear hm2 hlt
      clear hba hbb hg hal har hbl hbr oa ob hm ih
      go_enter Try.func109, Try.ntmps109
      go_wp2
      have HBW := Lib.hid (below_drew (Below.refl w.heap.size w))
      replace HG := Lib.hid (blk_drew HG.out)
      replace HBA := Lib.hid (blk_drew HBA.out)
      replace HBB := Lib.hid (blk_drew HBB.out)
      replace NA := Lib.hid NA.out.drew
      replace NB := Lib.hid NB.out.drew
      refine start_ (n := 14) (S := fun w' => w'.cell? ⟨g, 0, none⟩ = some (.func (.func 86) #[] #[]) ∧ w'.cell? ⟨bb, 0, none⟩ = some (.int .i64 y.f0) ∧ w'.cell? ⟨bb, 1, none⟩ = some (.int .i64 y.f1) ∧ w'.cell? ⟨bb, 2, none⟩ = some (.int .i64 y.f2) ∧ w'.cell? ⟨bb, 3, none⟩ = some (.int .i64 y.f3) ∧ w'.cell? ⟨ba, 0, none⟩ = some (.int .i64 x.f0) ∧ w'.cell? ⟨ba, 1, none⟩ = some (.int .i64 x.f1) ∧ w'.cell? ⟨ba, 2, none⟩ = some (.int .i64 x.f2) ∧ w'.cell? ⟨ba, 3, none⟩ = some (.int .i64 x.f3)) (ds := []) #[false, false, false, false, false, false, false, false, false, false, false, false, false, false] (by kernel_rfl) rfl rfl ⟨(blk_cell HG.out 0).trans rfl, (blk_cell HBB.out 0).trans rfl, (blk_cell HBB.out 1).trans rfl, (blk_cell HBB.out 2).trans rfl, (blk_cell HBB.out 3).trans rfl, (blk_cell HBA.out 0).trans rfl, (blk_cell HBA.out 1).trans rfl, (blk_cell HBA.out 2).trans rfl, (blk_cell HBA.out 3).trans rfl⟩ (fun hHeld => ?_); refine with_tabW meld.tab5 meld.bits5 (fun HT_ HW_ => ?_)
      generalize w.drew = w1 at HG NA NB HBA HBB HBW hHeld ⊢
      refine pure_ (i := 0) (N := some 18) (v := ?_) (a' := ?_) #[true, false, false, false, false, false, false, false, false, false, false, false, false, false] rfl rfl (any_of HT_.out (by kernel_rfl)) (fun _ _ _ h => h) (Or.inl ⟨by rfl, ?_⟩) ?_ ?_
      rotate_left
      · intro w'
        go_simp
        with_reducible rfl
      rotate_left
      · simp only [Act.put, List.setIfInBounds_toArray, List.set_cons_zero, List.set_cons_succ, i64_w, i32_w]
        rfl
      refine pure_ (i := 1) (N := some 19) (v := ?_) (a' := ?_) #[true, true, false, false, false, false, false, false, false, false, false, false, false, false] rfl rfl (any_of HT_.out (by kernel_rfl)) (fun _ _ _ h => h) (Or.inl ⟨by rfl, ?_⟩) ?_ ?_
      rotate_left
      · intro w'
        go_simp
        with_reducible rfl
      rotate_left
      · simp only [Act.put, List.setIfInBounds_toArray, List.set_cons_zero, List.set_cons_succ, i64_w, i32_w]
        rfl
      refine pure_ (i := 2) (N := some 20) (v := ?_) (a' := ?_) #[true, true, true, false, false, false, false, false, false, false, false, false, false, false] rfl rfl (any_of HT_.out (by kernel_rfl)) (fun _ _ _ h => h) (Or.inl ⟨by rfl, ?_⟩) ?_ ?_
      rotate_left
      · intro w'
        go_simp
        with_reducible rfl
      rotate_left
      · simp only [Act.put, List.setIfInBounds_toArray, List.set_cons_zero, List.set_cons_succ, i64_w, i32_w]
        rfl
      refine take_ (i := 3) (N := some 21) (v := ?_) (a' := ?_) #[true, true, true, true, false, false, false, false, false, false, false, false, false, false] rfl rfl (take_ofW HT_.out HW_.out (by kernel_rfl)) (fun _ _ _ h => h) (Or.inl ⟨by rfl, ?_⟩) hHeld ?_ ?_
      rotate_left
      · rintro w' ⟨s0, s1, s2, s3, s4, s5, s6, s7, s8⟩
        go_simp
        with_reducible rfl
      rotate_left
      · simp only [Act.put, List.setIfInBounds_toArray, List.set_cons_zero, List.set_cons_succ, i64_w, i32_w]
        rfl
      refine pure_ (i := 4) (N := some 22) (v := ?_) (a' := ?_) #[true, true, true, true, true, false, false, false, false, false, false, false, false, false] rfl rfl (any_of HT_.out (by kernel_rfl)) (fun _ _ _ h => h) (Or.inl ⟨by rfl, ?_⟩) ?_ ?_
      rotate_left
      · intro w'
        go_simp
        with_reducible rfl
      rotate_left
      · simp only [Act.put, List.setIfInBounds_toArray, List.set_cons_zero, List.set_cons_succ, i64_w, i32_w]
        rfl
      refine pure_ (i := 5) (N := some 23) (v := ?_) (a' := ?_) #[true, true, true, true, true, true, false, false, false, false, false, false, false, false] rfl rfl (any_of HT_.out (by kernel_rfl)) (fun _ _ _ h => h) (Or.inl ⟨by rfl, ?_⟩) ?_ ?_
      rotate_left
      · intro w'
        go_simp
        with_reducible rfl
      rotate_left
      · simp only [Act.put, List.setIfInBounds_toArray, List.set_cons_zero, List.set_cons_succ, i64_w, i32_w]
        rfl
      refine pure_ (i := 6) (N := some 24) (v := ?_) (a' := ?_) #[true, true, true, true, true, true, true, false, false, false, false, false, false, false] rfl rfl (any_of HT_.out (by kernel_rfl)) (fun _ _ _ h => h) (Or.inl ⟨by rfl, ?_⟩) ?_ ?_
      rotate_left
      · intro w'
        go_simp
        with_reducible rfl
      rotate_left
      · simp only [Act.put, List.setIfInBounds_toArray, List.set_cons_zero, List.set_cons_succ, i64_w, i32_w]
        rfl
      refine take_ (i := 7) (N := some 25) (v := ?_) (a' := ?_) #[true, true, true, true, true, true, true, true, false, false, false, false, false, false] rfl rfl (take_ofW HT_.out HW_.out (by kernel_rfl)) (fun _ _ _ h => h) (Or.inl ⟨by rfl, ?_⟩) hHeld ?_ ?_
      rotate_left
      · rintro w' ⟨s0, s1, s2, s3, s4, s5, s6, s7, s8⟩
        go_simp
        with_reducible rfl
      rotate_left
      · simp only [Act.put, List.setIfInBounds_toArray, List.set_cons_zero, List.set_cons_succ, i64_w, i32_w]
        rfl
      refine pure_ (i := 8) (N := some 26) (v := ?_) (a' := ?_) #[true, true, true, true, true, true, true, true, true, false, false, false, false, false] rfl rfl (any_of HT_.out (by kernel_rfl)) (fun _ _ _ h => h) (Or.inl ⟨by rfl, ?_⟩) ?_ ?_
      rotate_left
      · intro w'
        go_simp
        with_reducible rfl
      rotate_left
      · simp only [Act.put, List.setIfInBounds_toArray, List.set_cons_zero, List.set_cons_succ, i64_w, i32_w]
        rfl
      refine pure_ (i := 9) (N := some 27) (v := ?_) (a' := ?_) #[true, true, true, true, true, true, true, true, true, true, false, false, false, false] rfl rfl (any_of HT_.out (by kernel_rfl)) (fun _ _ _ h => h) (Or.inl ⟨by rfl, ?_⟩) ?_ ?_
      rotate_left
      · intro w'
        go_simp
        with_reducible rfl
      rotate_left
      · simp only [Act.put, List.setIfInBounds_toArray, List.set_cons_zero, List.set_cons_succ, i64_w, i32_w]
        rfl
      refine pure_ (i := 10) (N := some 28) (v := ?_) (a' := ?_) #[true, true, true, true, true, true, true, true, true, true, true, false, false, false] rfl rfl (any_of HT_.out (by kernel_rfl)) (fun _ _ _ h => h) (Or.inl ⟨by rfl, ?_⟩) ?_ ?_
      rotate_left
      · intro w'
        go_simp
        with_reducible rfl
      rotate_left
      · simp only [Act.put, List.setIfInBounds_toArray, List.set_cons_zero, List.set_cons_succ, i64_w, i32_w]
        rfl
      refine take_ (i := 11) (N := some 29) (v := ?_) (a' := ?_) #[true, true, true, true, true, true, true, true, true, true, true, true, false, false] rfl rfl (take_ofW HT_.out HW_.out (by kernel_rfl)) (fun _ _ _ h => h) (Or.inl ⟨by rfl, ?_⟩) hHeld ?_ ?_
      rotate_left
      · rintro w' ⟨s0, s1, s2, s3, s4, s5, s6, s7, s8⟩
        go_simp
        with_reducible rfl
      rotate_left
      · simp only [Act.put, List.setIfInBounds_toArray, List.set_cons_zero, List.set_cons_succ, i64_w, i32_w]
        rfl
      refine one_ (i := 12) (N := some 30) #[true, true, true, true, true, true, true, true, true, true, true, true, true, false] rfl rfl (one_of HT_.out (by kernel_rfl)) (by decide) (fun K hK => ?_)
      refine goesv_ Try.func86 (by kernel_rfl) rfl (.tmp 21) #[] #[.agg #[.int .i64 y.f0, .int .i64 y.f1, .int .i64 y.f2, .int .i64 y.f3], .agg #[.int .i64 x.f0, .int .i64 x.f1, .int .i64 x.f2, .int .i64 x.f3]] (by rfl) (by rfl) (by rfl) rfl (by (try simp only [List.map_toArray, List.map_cons, List.map_nil]); first | done | rfl) ?_
      refine (lessJ.calls y x w1).mono ?_
      rintro e w2 ⟨rfl, q1⟩
      refine ⟨_, rfl, ?_⟩
      replace HG := Lib.hid (blk_below HG.out q1)
      replace HBA := Lib.hid (blk_below HBA.out q1)
      replace HBB := Lib.hid (blk_below HBB.out q1)
      replace NA := Lib.hid (NA.out.below q1)
      replace NB := Lib.hid (NB.out.below q1)
      replace HBW := Lib.hid (below_step HBW.out q1)
      clear q1
      refine hK.out _ _ ⟨(blk_cell HG.out 0).trans rfl, (blk_cell HBB.out 0).trans rfl, (blk_cell HBB.out 1).trans rfl, (blk_cell HBB.out 2).trans rfl, (blk_cell HBB.out 3).trans rfl, (blk_cell HBA.out 0).trans rfl, (blk_cell HBA.out 1).trans rfl, (blk_cell HBA.out 2).trans rfl, (blk_cell HBA.out 3).trans rfl⟩ (fun hHeld => ?_)
      clear hK K
      refine norm_ (a' := ?_) ?_ ?_
      rotate_left
      · show Act.put _ (some 30) _ = _
        simp only [Act.put, List.setIfInBounds_toArray, List.set_cons_zero, List.set_cons_succ, i64_w, i32_w]
        rfl
      refine pure_ (i := 13) (N := some 17) (v := ?_) (a' := ?_) #[true, true, true, true, true, true, true, true, true, true, true, true, true, true] rfl rfl (any_of HT_.out (by kernel_rfl)) (fun _ _ _ h => h) (Or.inl ⟨by rfl, ?_⟩) ?_ ?_
      rotate_left
      · intro w'
        go_simp
        with_reducible rfl
      rotate_left
      · simp only [Act.put, List.setIfInBounds_toArray, List.set_cons_zero, List.set_cons_succ, i64_w, i32_w]
        rfl
      refine done_ (done_of HT_.out (by kernel_rfl)) ?_
      rw [HL.out]
      go_wp2_with (go_at_call 109; refine (HI.out w2 HG.out NA.out NB.out).mono ?_; rintro e w3 ⟨v3, t3, rfl, h1, h2, h3, h4⟩)
      go_ret
      exact ⟨v3, t3, rfl, h1, h2, h3.trans List.perm_append_comm, below_step HBW.out h4⟩
    | false =>
      have hm2 : 2 * (r.toL.length + (HT.node y bl br).toL.length) + HT.sw jlt r (HT.node y bl br) ≤ m := by
        have := HT.sw_le jlt r (HT.node y bl br)
        simp only [HT.toL, List.length_cons, List.length_append] at hm ⊢
        omega
      have HM := Lib.hid hm2
      have ORR := Lib.hid oa.2.2
      have HL := Lib.hid hlt
      clear hm2 hm hba hbb hg hal har hbl hbr oa ob hlt
      have ih := Lib.hid ih
      go_enter Try.func109, Try.ntmps109
      go_wp2
      have HBW := Lib.hid (below_drew (Below.refl w.heap.size w))
      replace HG := Lib.hid (blk_drew HG.out)
      replace HBA := Lib.hid (blk_drew HBA.out)
      replace HBB := Lib.hid (blk_drew HBB.out)
      replace HAL := Lib.hid HAL.out.drew
      replace HAR := Lib.hid HAR.out.drew
      replace NB := Lib.hid NB.out.drew
      refine start_ (n := 14) (S := fun w' => w'.cell? ⟨g, 0, none⟩ = some (.func (.func 86) #[] #[]) ∧ w'.cell? ⟨bb, 0, none⟩ = some (.int .i64 y.f0) ∧ w'.cell? ⟨bb, 1, none⟩ = some (.int .i64 y.f1) ∧ w'.cell? ⟨bb, 2, none⟩ = some (.int .i64 y.f2) ∧ w'.cell? ⟨bb, 3, none⟩ = some (.int .i64 y.f3) ∧ w'.cell? ⟨ba, 0, none⟩ = some (.int .i64 x.f0) ∧ w'.cell? ⟨ba, 1, none⟩ = some (.int .i64 x.f1) ∧ w'.cell? ⟨ba, 2, none⟩ = some (.int .i64 x.f2) ∧ w'.cell? ⟨ba, 3, none⟩ = some (.int .i64 x.f3)) (ds := []) #[false, false, false, false, false, false, false, false, false, false, false, false, false, false] (by kernel_rfl) rfl rfl ⟨(blk_cell HG.out 0).trans rfl, (blk_cell HBB.out 0).trans rfl, (blk_cell HBB.out 1).trans rfl, (blk_cell HBB.out 2).trans rfl, (blk_cell HBB.out 3).trans rfl, (blk_cell HBA.out 0).trans rfl, (blk_cell HBA.out 1).trans rfl, (blk_cell HBA.out 2).trans rfl, (blk_cell HBA.out 3).trans rfl⟩ (fun hHeld => ?_); refine with_tabW meld.tab5 meld.bits5 (fun HT_ HW_ => ?_)
      generalize w.drew = w1 at HG HBA HBB HAL HAR NB HBW hHeld ⊢
      refine pure_ (i := 0) (N := some 18) (v := ?_) (a' := ?_) #[true, false, false, false, false, false, false, false, false, false, false, false, false, false] rfl rfl (any_of HT_.out (by kernel_rfl)) (fun _ _ _ h => h) (Or.inl ⟨by rfl, ?_⟩) ?_ ?_
      rotate_left
      · intro w'
        go_simp
        with_reducible rfl
      rotate_left
      · simp only [Act.put, List.setIfInBounds_toArray, List.set_cons_zero, List.set_cons_succ, i64_w, i32_w]
        rfl
      refine pure_ (i := 1) (N := some 19) (v := ?_) (a' := ?_) #[true, true, false, false, false, false, false, false, false, false, false, false, false, false] rfl rfl (any_of HT_.out (by kernel_rfl)) (fun _ _ _ h => h) (Or.inl ⟨by rfl, ?_⟩) ?_ ?_
      rotate_left
      · intro w'
        go_simp
        with_reducible rfl
      rotate_left
      · simp only [Act.put, List.setIfInBounds_toArray, List.set_cons_zero, List.set_cons_succ, i64_w, i32_w]
        rfl
      refine pure_ (i := 2) (N := some 20) (v := ?_) (a' := ?_) #[true, true, true, false, false, false, false, false, false, false, false, false, false, false] rfl rfl (any_of HT_.out (by kernel_rfl)) (fun _ _ _ h => h) (Or.inl ⟨by rfl, ?_⟩) ?_ ?_
      rotate_left
      · intro w'
        go_simp
        with_reducible rfl
      rotate_left
      · simp only [Act.put, List.setIfInBounds_toArray, List.set_cons_zero, List.set_cons_succ, i64_w, i32_w]
        rfl
      refine take_ (i := 3) (N := some 21) (v := ?_) (a' := ?_) #[true, true, true, true, false, false, false, false, false, false, false, false, false, false] rfl rfl (take_ofW HT_.out HW_.out (by kernel_rfl)) (fun _ _ _ h => h) (Or.inl ⟨by rfl, ?_⟩) hHeld ?_ ?_
      rotate_left
      · rintro w' ⟨s0, s1, s2, s3, s4, s5, s6, s7, s8⟩
        go_simp
        with_reducible rfl
      rotate_left
      · simp only [Act.put, List.setIfInBounds_toArray, List.set_cons_zero, List.set_cons_succ, i64_w, i32_w]
        rfl
      refine pure_ (i := 4) (N := some 22) (v := ?_) (a' := ?_) #[true, true, true, true, true, false, false, false, false, false, false, false, false, false] rfl rfl (any_of HT_.out (by kernel_rfl)) (fun _ _ _ h => h) (Or.inl ⟨by rfl, ?_⟩) ?_ ?_
      rotate_left
      · intro w'
        go_simp
        with_reducible rfl
      rotate_left
      · simp only [Act.put, List.setIfInBounds_toArray, List.set_cons_zero, List.set_cons_succ, i64_w, i32_w]
        rfl
      refine pure_ (i := 5) (N := some 23) (v := ?_) (a' := ?_) #[true, true, true, true, true, true, false, false, false, false, false, false, false, false] rfl rfl (any_of HT_.out (by kernel_rfl)) (fun _ _ _ h => h) (Or.inl ⟨by rfl, ?_⟩) ?_ ?_
      rotate_left
      · intro w'
        go_simp
        with_reducible rfl
      rotate_left
      · simp only [Act.put, List.setIfInBounds_toArray, List.set_cons_zero, List.set_cons_succ, i64_w, i32_w]
        rfl
      refine pure_ (i := 6) (N := some 24) (v := ?_) (a' := ?_) #[true, true, true, true, true, true, true, false, false, false, false, false, false, false] rfl rfl (any_of HT_.out (by kernel_rfl)) (fun _ _ _ h => h) (Or.inl ⟨by rfl, ?_⟩) ?_ ?_
      rotate_left
      · intro w'
        go_simp
        with_reducible rfl
      rotate_left
      · simp only [Act.put, List.setIfInBounds_toArray, List.set_cons_zero, List.set_cons_succ, i64_w, i32_w]
        rfl
      refine take_ (i := 7) (N := some 25) (v := ?_) (a' := ?_) #[true, true, true, true, true, true, true, true, false, false, false, false, false, false] rfl rfl (take_ofW HT_.out HW_.out (by kernel_rfl)) (fun _ _ _ h => h) (Or.inl ⟨by rfl, ?_⟩) hHeld ?_ ?_
      rotate_left
      · rintro w' ⟨s0, s1, s2, s3, s4, s5, s6, s7, s8⟩
        go_simp
        with_reducible rfl
      rotate_left
      · simp only [Act.put, List.setIfInBounds_toArray, List.set_cons_zero, List.set_cons_succ, i64_w, i32_w]
        rfl
      refine pure_ (i := 8) (N := some 26) (v := ?_) (a' := ?_) #[true, true, true, true, true, true, true, true, true, false, false, false, false, false] rfl rfl (any_of HT_.out (by kernel_rfl)) (fun _ _ _ h => h) (Or.inl ⟨by rfl, ?_⟩) ?_ ?_
      rotate_left
      · intro w'
        go_simp
        with_reducible rfl
      rotate_left
      · simp only [Act.put, List.setIfInBounds_toArray, List.set_cons_zero, List.set_cons_succ, i64_w, i32_w]
        rfl
      refine pure_ (i := 9) (N := some 27) (v := ?_) (a' := ?_) #[true, true, true, true, true, true, true, true, true, true, false, false, false, false] rfl rfl (any_of HT_.out (by kernel_rfl)) (fun _ _ _ h => h) (Or.inl ⟨by rfl, ?_⟩) ?_ ?_
      rotate_left
      · intro w'
        go_simp
        with_reducible rfl
      rotate_left
      · simp only [Act.put, List.setIfInBounds_toArray, List.set_cons_zero, List.set_cons_succ, i64_w, i32_w]
        rfl
      refine pure_ (i := 10) (N := some 28) (v := ?_) (a' := ?_) #[true, true, true, true, true, true, true, true, true, true, true, false, false, false] rfl rfl (any_of HT_.out (by kernel_rfl)) (fun _ _ _ h => h) (Or.inl ⟨by rfl, ?_⟩) ?_ ?_
      rotate_left
      · intro w'
        go_simp
        with_reducible rfl
      rotate_left
      · simp only [Act.put, List.setIfInBounds_toArray, List.set_cons_zero, List.set_cons_succ, i64_w, i32_w]
        rfl
      refine take_ (i := 11) (N := some 29) (v := ?_) (a' := ?_) #[true, true, true, true, true, true, true, true, true, true, true, true, false, false] rfl rfl (take_ofW HT_.out HW_.out (by kernel_rfl)) (fun _ _ _ h => h) (Or.inl ⟨by rfl, ?_⟩) hHeld ?_ ?_
      rotate_left
      · rintro w' ⟨s0, s1, s2, s3, s4, s5, s6, s7, s8⟩
        go_simp
        with_reducible rfl
      rotate_left
      · simp only [Act.put, List.setIfInBounds_toArray, List.set_cons_zero, List.set_cons_succ, i64_w, i32_w]
        rfl
      refine one_ (i := 12) (N := some 30) #[true, true, true, true, true, true, true, true, true, true, true, true, true, false] rfl rfl (one_of HT_.out (by kernel_rfl)) (by decide) (fun K hK => ?_)
      refine goesv_ Try.func86 (by kernel_rfl) rfl (.tmp 21) #[] #[.agg #[.int .i64 y.f0, .int .i64 y.f1, .int .i64 y.f2, .int .i64 y.f3], .agg #[.int .i64 x.f0, .int .i64 x.f1, .int .i64 x.f2, .int .i64 x.f3]] (by rfl) (by rfl) (by rfl) rfl (by (try simp only [List.map_toArray, List.map_cons, List.map_nil]); first | done | rfl) ?_
      refine (lessJ.calls y x w1).mono ?_
      rintro e w2 ⟨rfl, q1⟩
      refine ⟨_, rfl, ?_⟩
      replace HG := Lib.hid (blk_below HG.out q1)
      replace HBA := Lib.hid (blk_below HBA.out q1)
      replace HBB := Lib.hid (blk_below HBB.out q1)
      replace HAL := Lib.hid (HAL.out.below q1)
      replace HAR := Lib.hid (HAR.out.below q1)
      replace NB := Lib.hid (NB.out.below q1)
      replace HBW := Lib.hid (below_step HBW.out q1)
      clear q1
      refine hK.out _ _ ⟨(blk_cell HG.out 0).trans rfl, (blk_cell HBB.out 0).trans rfl, (blk_cell HBB.out 1).trans rfl, (blk_cell HBB.out 2).trans rfl, (blk_cell HBB.out 3).trans rfl, (blk_cell HBA.out 0).trans rfl, (blk_cell HBA.out 1).trans rfl, (blk_cell HBA.out 2).trans rfl, (blk_cell HBA.out 3).trans rfl⟩ (fun hHeld => ?_)
      clear hK K
      refine norm_ (a' := ?_) ?_ ?_
      rotate_left
      · show Act.put _ (some 30) _ = _
        simp only [Act.put, List.setIfInBounds_toArray, List.set_cons_zero, List.set_cons_succ, i64_w, i32_w]
        rfl
      refine pure_ (i := 13) (N := some 17) (v := ?_) (a' := ?_) #[true, true, true, true, true, true, true, true, true, true, true, true, true, true] rfl rfl (any_of HT_.out (by kernel_rfl)) (fun _ _ _ h => h) (Or.inl ⟨by rfl, ?_⟩) ?_ ?_
      rotate_left
      · intro w'
        go_simp
        with_reducible rfl
      rotate_left
      · simp only [Act.put, List.setIfInBounds_toArray, List.set_cons_zero, List.set_cons_succ, i64_w, i32_w]
        rfl
      refine done_ (done_of HT_.out (by kernel_rfl)) ?_
      rw [HL.out]
      go_wp2
      replace HBW := Lib.hid (below_drew1 HBW.out)
      replace HG := Lib.hid (blk_drew HG.out)
      replace HBA := Lib.hid (blk_drew HBA.out)
      replace HAL := Lib.hid HAL.out.drew
      replace HAR := Lib.hid HAR.out.drew
      replace NB := Lib.hid NB.out.drew
      refine start_ (n := 13) (S := fun w' => w'.cell? ⟨ba, 5, none⟩ = some (.pointer val) ∧ w'.cell? ⟨ba, 6, none⟩ = some (.pointer var)) (ds := []) #[false, false, false, false, false, false, false, false, false, false, false, false, false] (by kernel_rfl) rfl rfl ⟨(blk_cell HBA.out 5).trans rfl, (blk_cell HBA.out 6).trans rfl⟩ (fun hHeld => ?_); refine with_tabW meld.tab7 meld.bits7 (fun HT_ HW_ => ?_)
      generalize w2.drew = w2' at HG HBA NB HAL HAR HBW hHeld ⊢
      refine pure_ (i := 0) (N := some 35) (v := ?_) (a' := ?_) #[true, false, false, false, false, false, false, false, false, false, false, false, false] rfl rfl (any_of HT_.out (by kernel_rfl)) (fun _ _ _ h => h) (Or.inl ⟨by rfl, ?_⟩) ?_ ?_
      rotate_left
      · intro w'
        go_simp
        with_reducible rfl
      rotate_left
      · simp only [Act.put, List.setIfInBounds_toArray, List.set_cons_zero, List.set_cons_succ, i64_w, i32_w]
        rfl
      refine pure_ (i := 1) (N := some 36) (v := ?_) (a' := ?_) #[true, true, false, false, false, false, false, false, false, false, false, false, false] rfl rfl (any_of HT_.out (by kernel_rfl)) (fun _ _ _ h => h) (Or.inl ⟨by rfl, ?_⟩) ?_ ?_
      rotate_left
      · intro w'
        go_simp
        with_reducible rfl
      rotate_left
      · simp only [Act.put, List.setIfInBounds_toArray, List.set_cons_zero, List.set_cons_succ, i64_w, i32_w]
        rfl
      refine pure_ (i := 2) (N := some 37) (v := ?_) (a' := ?_) #[true, true, true, false, false, false, false, false, false, false, false, false, false] rfl rfl (any_of HT_.out (by kernel_rfl)) (fun _ _ _ h => h) (Or.inl ⟨by rfl, ?_⟩) ?_ ?_
      rotate_left
      · intro w'
        go_simp
        with_reducible rfl
      rotate_left
      · simp only [Act.put, List.setIfInBounds_toArray, List.set_cons_zero, List.set_cons_succ, i64_w, i32_w]
        rfl
      refine take_ (i := 3) (N := some 38) (v := ?_) (a' := ?_) #[true, true, true, true, false, false, false, false, false, false, false, false, false] rfl rfl (take_ofW HT_.out HW_.out (by kernel_rfl)) (fun _ _ _ h => h) (Or.inl ⟨by rfl, ?_⟩) hHeld ?_ ?_
      rotate_left
      · rintro w' ⟨s0, s1⟩
        go_simp
        with_reducible rfl
      rotate_left
      · simp only [Act.put, List.setIfInBounds_toArray, List.set_cons_zero, List.set_cons_succ, i64_w, i32_w]
        rfl
      refine pure_ (i := 4) (N := some 39) (v := ?_) (a' := ?_) #[true, true, true, true, true, false, false, false, false, false, false, false, false] rfl rfl (any_of HT_.out (by kernel_rfl)) (fun _ _ _ h => h) (Or.inl ⟨by rfl, ?_⟩) ?_ ?_
      rotate_left
      · intro w'
        go_simp
        with_reducible rfl
      rotate_left
      · simp only [Act.put, List.setIfInBounds_toArray, List.set_cons_zero, List.set_cons_succ, i64_w, i32_w]
        rfl
      refine pure_ (i := 5) (N := some 40) (v := ?_) (a' := ?_) #[true, true, true, true, true, true, false, false, false, false, false, false, false] rfl rfl (any_of HT_.out (by kernel_rfl)) (fun _ _ _ h => h) (Or.inl ⟨by rfl, ?_⟩) ?_ ?_
      rotate_left
      · intro w'
        go_simp
        with_reducible rfl
      rotate_left
      · simp only [Act.put, List.setIfInBounds_toArray, List.set_cons_zero, List.set_cons_succ, i64_w, i32_w]
        rfl
      refine pure_ (i := 6) (N := some 41) (v := ?_) (a' := ?_) #[true, true, true, true, true, true, true, false, false, false, false, false, false] rfl rfl (any_of HT_.out (by kernel_rfl)) (fun _ _ _ h => h) (Or.inl ⟨by rfl, ?_⟩) ?_ ?_
      rotate_left
      · intro w'
        go_simp
        with_reducible rfl
      rotate_left
      · simp only [Act.put, List.setIfInBounds_toArray, List.set_cons_zero, List.set_cons_succ, i64_w, i32_w]
        rfl
      refine pure_ (i := 7) (N := some 42) (v := ?_) (a' := ?_) #[true, true, true, true, true, true, true, true, false, false, false, false, false] rfl rfl (any_of HT_.out (by kernel_rfl)) (fun _ _ _ h => h) (Or.inl ⟨by rfl, ?_⟩) ?_ ?_
      rotate_left
      · intro w'
        go_simp
        with_reducible rfl
      rotate_left
      · simp only [Act.put, List.setIfInBounds_toArray, List.set_cons_zero, List.set_cons_succ, i64_w, i32_w]
        rfl
      refine take_ (i := 8) (N := some 43) (v := ?_) (a' := ?_) #[true, true, true, true, true, true, true, true, true, false, false, false, false] rfl rfl (take_ofW HT_.out HW_.out (by kernel_rfl)) (fun _ _ _ h => h) (Or.inl ⟨by rfl, ?_⟩) hHeld ?_ ?_
      rotate_left
      · rintro w' ⟨s0, s1⟩
        go_simp
        with_reducible rfl
      rotate_left
      · simp only [Act.put, List.setIfInBounds_toArray, List.set_cons_zero, List.set_cons_succ, i64_w, i32_w]
        rfl
      refine pure_ (i := 9) (N := some 44) (v := ?_) (a' := ?_) #[true, true, true, true, true, true, true, true, true, true, false, false, false] rfl rfl (any_of HT_.out (by kernel_rfl)) (fun _ _ _ h => h) (Or.inl ⟨by rfl, ?_⟩) ?_ ?_
      rotate_left
      · intro w'
        go_simp
        with_reducible rfl
      rotate_left
      · simp only [Act.put, List.setIfInBounds_toArray, List.set_cons_zero, List.set_cons_succ, i64_w, i32_w]
        rfl
      refine one_ (i := 10) (N := some 45) #[true, true, true, true, true, true, true, true, true, true, true, false, false] rfl rfl (one_of HT_.out (by kernel_rfl)) (by decide) (fun K hK => ?_)
      refine goes_ Try.func109 (by kernel_rfl) rfl #[.pointer (some ⟨g, 0, none⟩), .pointer var, .pointer (some ⟨bb, 0, none⟩)] (by rfl) rfl rfl (by (try simp only [List.map_toArray, List.map_cons, List.map_nil]); first | done | rfl) ?_
      refine (ih.out r (.node y bl br) var (some ⟨bb, 0, none⟩) w2' HM.out HG.out HAR.out NB.out ORR.out OB.out).mono ?_
      rintro e w3 ⟨v3, t3, rfl, h1, h2, h3, h4⟩
      refine ⟨_, rfl, ?_⟩
      have N3 := Lib.hid h1
      have O3 := Lib.hid h2
      have P3 := Lib.hid h3
      replace HBA := Lib.hid (blk_below HBA.out h4)
      replace HAL := Lib.hid (HAL.out.below h4)
      replace HBW := Lib.hid (below_step HBW.out h4)
      clear h1 h2 h3 h4 NB HAR HG
      refine hK.out _ _ ⟨(blk_cell HBA.out 5).trans rfl, (blk_cell HBA.out 6).trans rfl⟩ (fun hHeld => ?_)
      clear hK K
      refine norm_ (a' := ?_) ?_ ?_
      rotate_left
      · show Act.put _ (some 45) _ = _
        simp only [Act.put, List.setIfInBounds_toArray, List.set_cons_zero, List.set_cons_succ, i64_w, i32_w]
        rfl
      refine pure_ (i := 11) (N := some 7) (v := ?_) (a' := ?_) #[true, true, true, true, true, true, true, true, true, true, true, true, false] rfl rfl (any_of HT_.out (by kernel_rfl)) (fun _ _ _ h => h) (Or.inl ⟨by rfl, ?_⟩) ?_ ?_
      rotate_left
      · intro w'
        go_simp
        with_reducible rfl
      rotate_left
      · simp only [Act.put, List.setIfInBounds_toArray, List.set_cons_zero, List.set_cons_succ, i64_w, i32_w]
        rfl
      refine pure_ (i := 12) (N := some 8) (v := ?_) (a' := ?_) #[true, true, true, true, true, true, true, true, true, true, true, true, true] rfl rfl (any_of HT_.out (by kernel_rfl)) (fun _ _ _ h => h) (Or.inl ⟨by rfl, ?_⟩) ?_ ?_
      rotate_left
      · intro w'
        go_simp
        with_reducible rfl
      rotate_left
      · simp only [Act.put, List.setIfInBounds_toArray, List.set_cons_zero, List.set_cons_succ, i64_w, i32_w]
        rfl
      refine done_ (done_of HT_.out (by kernel_rfl)) ?_
      obtain ⟨dl, hdl⟩ := way.calls val l w3 HAL.out
      obtain ⟨dr, hdr⟩ := way.calls v3 t3 w3 N3.out
      have HDL := Lib.hid hdl
      have HDR := Lib.hid hdr
      clear hdl hdr
      by_cases hlr : dl < dr
      · go_wp2_with (go_at_call 117; (first | refine HDL.out.mono ?_ | refine HDR.out.mono ?_); rintro e w4 ⟨rfl, rfl⟩)
        replace HBW := Lib.hid (below_drew1 HBW.out)
        replace HBA := Lib.hid (blk_drew HBA.out)
        replace HAL := Lib.hid HAL.out.drew
        replace N3 := Lib.hid N3.out.drew
        refine start_ (n := 12) (S := fun w' => w'.cell? ⟨ba, 0, none⟩ = some (.int .i64 x.f0) ∧ w'.cell? ⟨ba, 1, none⟩ = some (.int .i64 x.f1) ∧ w'.cell? ⟨ba, 2, none⟩ = some (.int .i64 x.f2) ∧ w'.cell? ⟨ba, 3, none⟩ = some (.int .i64 x.f3)) (ds := []) #[false, false, false, false, false, false, false, false, false, false, false, false] (by kernel_rfl) rfl rfl ⟨(blk_cell HBA.out 0).trans rfl, (blk_cell HBA.out 1).trans rfl, (blk_cell HBA.out 2).trans rfl, (blk_cell HBA.out 3).trans rfl⟩ (fun hHeld => ?_); refine with_tabW meld.tab10 meld.bits10 (fun HT_ HW_ => ?_)
        generalize w3.drew = w4 at HBA HAL N3 HBW hHeld ⊢
        refine pure_ (i := 0) (N := some 53) (v := ?_) (a' := ?_) #[true, false, false, false, false, false, false, false, false, false, false, false] rfl rfl (any_of HT_.out (by kernel_rfl)) (fun _ _ _ h => h) (Or.inl ⟨by rfl, ?_⟩) ?_ ?_
        rotate_left
        · intro w'
          go_simp
          with_reducible rfl
        rotate_left
        · simp only [Act.put, List.setIfInBounds_toArray, List.set_cons_zero, List.set_cons_succ, i64_w, i32_w]
          rfl
        refine pure_ (i := 1) (N := some 54) (v := ?_) (a' := ?_) #[true, true, false, false, false, false, false, false, false, false, false, false] rfl rfl (any_of HT_.out (by kernel_rfl)) (fun _ _ _ h => h) (Or.inl ⟨by rfl, ?_⟩) ?_ ?_
        rotate_left
        · intro w'
          go_simp
          with_reducible rfl
        rotate_left
        · simp only [Act.put, List.setIfInBounds_toArray, List.set_cons_zero, List.set_cons_succ, i64_w, i32_w]
          rfl
        refine pure_ (i := 2) (N := some 55) (v := ?_) (a' := ?_) #[true, true, true, false, false, false, false, false, false, false, false, false] rfl rfl (any_of HT_.out (by kernel_rfl)) (fun _ _ _ h => h) (Or.inl ⟨by rfl, ?_⟩) ?_ ?_
        rotate_left
        · intro w'
          go_simp
          with_reducible rfl
        rotate_left
        · simp only [Act.put, List.setIfInBounds_toArray, List.set_cons_zero, List.set_cons_succ, i64_w, i32_w]
          rfl
        refine take_ (i := 3) (N := some 56) (v := ?_) (a' := ?_) #[true, true, true, true, false, false, false, false, false, false, false, false] rfl rfl (take_ofW HT_.out HW_.out (by kernel_rfl)) (fun _ _ _ h => h) (Or.inl ⟨by rfl, ?_⟩) hHeld ?_ ?_
        rotate_left
        · rintro w' ⟨s0, s1, s2, s3⟩
          go_simp
          with_reducible rfl
        rotate_left
        · simp only [Act.put, List.setIfInBounds_toArray, List.set_cons_zero, List.set_cons_succ, i64_w, i32_w]
          rfl
        refine pure_ (i := 4) (N := some 57) (v := ?_) (a' := ?_) #[true, true, true, true, true, false, false, false, false, false, false, false] rfl rfl (any_of HT_.out (by kernel_rfl)) (fun _ _ _ h => h) (Or.inl ⟨by rfl, ?_⟩) ?_ ?_
        rotate_left
        · intro w'
          go_simp
          with_reducible rfl
        rotate_left
        · simp only [Act.put, List.setIfInBounds_toArray, List.set_cons_zero, List.set_cons_succ, i64_w, i32_w]
          rfl
        refine pure_ (i := 7) (N := some 60) (v := ?_) (a' := ?_) #[true, true, true, true, true, false, false, true, false, false, false, false] rfl rfl (any_of HT_.out (by kernel_rfl)) (fun _ _ _ h => h) (Or.inl ⟨by rfl, ?_⟩) ?_ ?_
        rotate_left
        · intro w'
          go_simp
          with_reducible rfl
        rotate_left
        · simp only [Act.put, List.setIfInBounds_toArray, List.set_cons_zero, List.set_cons_succ, i64_w, i32_w]
          rfl
        refine pure_ (i := 8) (N := some 61) (v := ?_) (a' := ?_) #[true, true, true, true, true, false, false, true, true, false, false, false] rfl rfl (any_of HT_.out (by kernel_rfl)) (fun _ _ _ h => h) (Or.inl ⟨by rfl, ?_⟩) ?_ ?_
        rotate_left
        · intro w'
          go_simp
          with_reducible rfl
        rotate_left
        · simp only [Act.put, List.setIfInBounds_toArray, List.set_cons_zero, List.set_cons_succ, i64_w, i32_w]
          rfl
        obtain ⟨d8, hw8⟩ := way.calls val _ w4 HAL.out
        refine one_ (i := 5) (N := some 58) #[true, true, true, true, true, true, false, true, true, false, false, false] rfl rfl (one_of HT_.out (by kernel_rfl)) (by decide) (fun K hK => ?_)
        refine goes_ Try.func117 (by kernel_rfl) rfl #[.pointer val] (by rfl) rfl rfl (by (try simp only [List.map_toArray, List.map_cons, List.map_nil]); first | done | rfl) ?_
        refine (hw8).mono ?_
        rintro e w5 ⟨rfl, rfl⟩
        refine ⟨_, rfl, ?_⟩
        refine hK.out _ _ hHeld (fun hHeld => ?_)
        clear hK K
        refine norm_ (a' := ?_) ?_ ?_
        rotate_left
        · show Act.put _ (some 58) _ = _
          simp only [Act.put, List.setIfInBounds_toArray, List.set_cons_zero, List.set_cons_succ, i64_w, i32_w]
          rfl
        refine pure_ (i := 6) (N := some 59) (v := ?_) (a' := ?_) #[true, true, true, true, true, true, true, true, true, false, false, false] rfl rfl (any_of HT_.out (by kernel_rfl)) (fun _ _ _ h => h) (Or.inl ⟨by rfl, ?_⟩) ?_ ?_
        rotate_left
        · intro w'
          go_simp
          with_reducible rfl
        rotate_left
        · simp only [Act.put, List.setIfInBounds_toArray, List.set_cons_zero, List.set_cons_succ, i64_w, i32_w]
          rfl
        refine pure_ (i := 9) (N := some 62) (v := ?_) (a' := ?_) #[true, true, true, true, true, true, true, true, true, true, false, false] rfl rfl (any_of HT_.out (by kernel_rfl)) (fun _ _ _ h => h) (Or.inl ⟨by rfl, ?_⟩) ?_ ?_
        rotate_left
        · intro w'
          go_simp
          with_reducible rfl
        rotate_left
        · simp only [Act.put, List.setIfInBounds_toArray, List.set_cons_zero, List.set_cons_succ, i64_w, i32_w]
          rfl
        refine one_ (i := 10) (N := some 63) #[true, true, true, true, true, true, true, true, true, true, true, false] rfl rfl (one_of HT_.out (by kernel_rfl)) (by decide) (fun K hK => ?_)
        refine event_step (w1 := w4.alloc (.cells #[.int .i64 x.f0, .int .i64 x.f1, .int .i64 x.f2, .int .i64 x.f3, .int .i64 (wrap64 (d8 + 1)), .pointer v3, .pointer val] 148)) (v := .pointer (some ⟨w4.heap.size, 0, none⟩)) (by rfl) (by go_simp) ?_
        refine hK.out _ _ ⟨(blk_cell (blk_alloc HBA.out _) 0).trans rfl, (blk_cell (blk_alloc HBA.out _) 1).trans rfl, (blk_cell (blk_alloc HBA.out _) 2).trans rfl, (blk_cell (blk_alloc HBA.out _) 3).trans rfl⟩ (fun hHeld => ?_)
        clear hK K
        refine norm_ (a' := ?_) ?_ ?_
        rotate_left
        · show Act.put _ (some 63) _ = _
          simp only [Act.put, List.setIfInBounds_toArray, List.set_cons_zero, List.set_cons_succ, i64_w, i32_w]
          rfl
        refine pure_ (i := 11) (N := some 6) (v := ?_) (a' := ?_) #[true, true, true, true, true, true, true, true, true, true, true, true] rfl rfl (any_of HT_.out (by kernel_rfl)) (fun _ _ _ h => h) (Or.inl ⟨by rfl, ?_⟩) ?_ ?_
        rotate_left
        · intro w'
          go_simp
          with_reducible rfl
        rotate_left
        · simp only [Act.put, List.setIfInBounds_toArray, List.set_cons_zero, List.set_cons_succ, i64_w, i32_w]
          rfl
        refine done_ (done_of HT_.out (by kernel_rfl)) ?_
        go_wp2
        go_ret
        obtain ⟨_, q1, q2⟩ := HT.meld_one jlt_wo OA.out OB.out HL.out O3.out P3.out
        exact ⟨_, .node x t3 l, rfl, ⟨w4.heap.size, _, v3, val, rfl, heap_alloc_new w4 _, N3.out.alloc _, HAL.out.alloc _⟩, q1, q2, below_alloc HBW.out _⟩
      · go_wp2_with (go_at_call 117; (first | refine HDL.out.mono ?_ | refine HDR.out.mono ?_); rintro e w4 ⟨rfl, rfl⟩)
        replace HBW := Lib.hid (below_drew1 HBW.out)
        replace HBA := Lib.hid (blk_drew HBA.out)
        replace HAL := Lib.hid HAL.out.drew
        replace N3 := Lib.hid N3.out.drew
        refine start_ (n := 12) (S := fun w' => w'.cell? ⟨ba, 0, none⟩ = some (.int .i64 x.f0) ∧ w'.cell? ⟨ba, 1, none⟩ = some (.int .i64 x.f1) ∧ w'.cell? ⟨ba, 2, none⟩ = some (.int .i64 x.f2) ∧ w'.cell? ⟨ba, 3, none⟩ = some (.int .i64 x.f3)) (ds := []) #[false, false, false, false, false, false, false, false, false, false, false, false] (by kernel_rfl) rfl rfl ⟨(blk_cell HBA.out 0).trans rfl, (blk_cell HBA.out 1).trans rfl, (blk_cell HBA.out 2).trans rfl, (blk_cell HBA.out 3).trans rfl⟩ (fun hHeld => ?_); refine with_tabW meld.tab10 meld.bits10 (fun HT_ HW_ => ?_)
        generalize w3.drew = w4 at HBA HAL N3 HBW hHeld ⊢
        refine pure_ (i := 0) (N := some 53) (v := ?_) (a' := ?_) #[true, false, false, false, false, false, false, false, false, false, false, false] rfl rfl (any_of HT_.out (by kernel_rfl)) (fun _ _ _ h => h) (Or.inl ⟨by rfl, ?_⟩) ?_ ?_
        rotate_left
        · intro w'
          go_simp
          with_reducible rfl
        rotate_left
        · simp only [Act.put, List.setIfInBounds_toArray, List.set_cons_zero, List.set_cons_succ, i64_w, i32_w]
          rfl
        refine pure_ (i := 1) (N := some 54) (v := ?_) (a' := ?_) #[true, true, false, false, false, false, false, false, false, false, false, false] rfl rfl (any_of HT_.out (by kernel_rfl)) (fun _ _ _ h => h) (Or.inl ⟨by rfl, ?_⟩) ?_ ?_
        rotate_left
        · intro w'
          go_simp
          with_reducible rfl
        rotate_left
        · simp only [Act.put, List.setIfInBounds_toArray, List.set_cons_zero, List.set_cons_succ, i64_w, i32_w]
          rfl
        refine pure_ (i := 2) (N := some 55) (v := ?_) (a' := ?_) #[true, true, true, false, false, false, false, false, false, false, false, false] rfl rfl (any_of HT_.out (by kernel_rfl)) (fun _ _ _ h => h) (Or.inl ⟨by rfl, ?_⟩) ?_ ?_
        rotate_left
        · intro w'
          go_simp
          with_reducible rfl
        rotate_left
        · simp only [Act.put, List.setIfInBounds_toArray, List.set_cons_zero, List.set_cons_succ, i64_w, i32_w]
          rfl
        refine take_ (i := 3) (N := some 56) (v := ?_) (a' := ?_) #[true, true, true, true, false, false, false, false, false, false, false, false] rfl rfl (take_ofW HT_.out HW_.out (by kernel_rfl)) (fun _ _ _ h => h) (Or.inl ⟨by rfl, ?_⟩) hHeld ?_ ?_
        rotate_left
        · rintro w' ⟨s0, s1, s2, s3⟩
          go_simp
          with_reducible rfl
        rotate_left
        · simp only [Act.put, List.setIfInBounds_toArray, List.set_cons_zero, List.set_cons_succ, i64_w, i32_w]
          rfl
        refine pure_ (i := 4) (N := some 57) (v := ?_) (a' := ?_) #[true, true, true, true, true, false, false, false, false, false, false, false] rfl rfl (any_of HT_.out (by kernel_rfl)) (fun _ _ _ h => h) (Or.inl ⟨by rfl, ?_⟩) ?_ ?_
        rotate_left
        · intro w'
          go_simp
          with_reducible rfl
        rotate_left
        · simp only [Act.put, List.setIfInBounds_toArray, List.set_cons_zero, List.set_cons_succ, i64_w, i32_w]
          rfl
        refine pure_ (i := 7) (N := some 60) (v := ?_) (a' := ?_) #[true, true, true, true, true, false, false, true, false, false, false, false] rfl rfl (any_of HT_.out (by kernel_rfl)) (fun _ _ _ h => h) (Or.inl ⟨by rfl, ?_⟩) ?_ ?_
        rotate_left
        · intro w'
          go_simp
          with_reducible rfl
        rotate_left
        · simp only [Act.put, List.setIfInBounds_toArray, List.set_cons_zero, List.set_cons_succ, i64_w, i32_w]
          rfl
        refine pure_ (i := 8) (N := some 61) (v := ?_) (a' := ?_) #[true, true, true, true, true, false, false, true, true, false, false, false] rfl rfl (any_of HT_.out (by kernel_rfl)) (fun _ _ _ h => h) (Or.inl ⟨by rfl, ?_⟩) ?_ ?_
        rotate_left
        · intro w'
          go_simp
          with_reducible rfl
        rotate_left
        · simp only [Act.put, List.setIfInBounds_toArray, List.set_cons_zero, List.set_cons_succ, i64_w, i32_w]
          rfl
        obtain ⟨d8, hw8⟩ := way.calls v3 _ w4 N3.out
        refine one_ (i := 5) (N := some 58) #[true, true, true, true, true, true, false, true, true, false, false, false] rfl rfl (one_of HT_.out (by kernel_rfl)) (by decide) (fun K hK => ?_)
        refine goes_ Try.func117 (by kernel_rfl) rfl #[.pointer v3] (by rfl) rfl rfl (by (try simp only [List.map_toArray, List.map_cons, List.map_nil]); first | done | rfl) ?_
        refine (hw8).mono ?_
        rintro e w5 ⟨rfl, rfl⟩
        refine ⟨_, rfl, ?_⟩
        refine hK.out _ _ hHeld (fun hHeld => ?_)
        clear hK K
        refine norm_ (a' := ?_) ?_ ?_
        rotate_left
        · show Act.put _ (some 58) _ = _
          simp only [Act.put, List.setIfInBounds_toArray, List.set_cons_zero, List.set_cons_succ, i64_w, i32_w]
          rfl
        refine pure_ (i := 6) (N := some 59) (v := ?_) (a' := ?_) #[true, true, true, true, true, true, true, true, true, false, false, false] rfl rfl (any_of HT_.out (by kernel_rfl)) (fun _ _ _ h => h) (Or.inl ⟨by rfl, ?_⟩) ?_ ?_
        rotate_left
        · intro w'
          go_simp
          with_reducible rfl
        rotate_left
        · simp only [Act.put, List.setIfInBounds_toArray, List.set_cons_zero, List.set_cons_succ, i64_w, i32_w]
          rfl
        refine pure_ (i := 9) (N := some 62) (v := ?_) (a' := ?_) #[true, true, true, true, true, true, true, true, true, true, false, false] rfl rfl (any_of HT_.out (by kernel_rfl)) (fun _ _ _ h => h) (Or.inl ⟨by rfl, ?_⟩) ?_ ?_
        rotate_left
        · intro w'
          go_simp
          with_reducible rfl
        rotate_left
        · simp only [Act.put, List.setIfInBounds_toArray, List.set_cons_zero, List.set_cons_succ, i64_w, i32_w]
          rfl
        refine one_ (i := 10) (N := some 63) #[true, true, true, true, true, true, true, true, true, true, true, false] rfl rfl (one_of HT_.out (by kernel_rfl)) (by decide) (fun K hK => ?_)
        refine event_step (w1 := w4.alloc (.cells #[.int .i64 x.f0, .int .i64 x.f1, .int .i64 x.f2, .int .i64 x.f3, .int .i64 (wrap64 (d8 + 1)), .pointer val, .pointer v3] 148)) (v := .pointer (some ⟨w4.heap.size, 0, none⟩)) (by rfl) (by go_simp) ?_
        refine hK.out _ _ ⟨(blk_cell (blk_alloc HBA.out _) 0).trans rfl, (blk_cell (blk_alloc HBA.out _) 1).trans rfl, (blk_cell (blk_alloc HBA.out _) 2).trans rfl, (blk_cell (blk_alloc HBA.out _) 3).trans rfl⟩ (fun hHeld => ?_)
        clear hK K
        refine norm_ (a' := ?_) ?_ ?_
        rotate_left
        · show Act.put _ (some 63) _ = _
          simp only [Act.put, List.setIfInBounds_toArray, List.set_cons_zero, List.set_cons_succ, i64_w, i32_w]
          rfl
        refine pure_ (i := 11) (N := some 6) (v := ?_) (a' := ?_) #[true, true, true, true, true, true, true, true, true, true, true, true] rfl rfl (any_of HT_.out (by kernel_rfl)) (fun _ _ _ h => h) (Or.inl ⟨by rfl, ?_⟩) ?_ ?_
        rotate_left
        · intro w'
          go_simp
          with_reducible rfl
        rotate_left
        · simp only [Act.put, List.setIfInBounds_toArray, List.set_cons_zero, List.set_cons_succ, i64_w, i32_w]
          rfl
        refine done_ (done_of HT_.out (by kernel_rfl)) ?_
        go_wp2
        go_ret
        obtain ⟨⟨q1, q2⟩, _⟩ := HT.meld_one jlt_wo OA.out OB.out HL.out O3.out P3.out
        exact ⟨_, .node x l t3, rfl, ⟨w4.heap.size, _, val, v3, rfl, heap_alloc_new w4 _, HAL.out.alloc _, N3.out.alloc _⟩, q1, q2, below_alloc HBW.out _⟩
theorem HpP.of_perm {w : World} {g : Nat} {L M : List S65} (h : HpP w g L) (hp : L.Perm M) : HpP w g M := by
  obtain ⟨v, t, h1, h2, h3, h4⟩ := h
  exact ⟨v, t, by rw [← hp.length_eq]; exact h1, h2, h3, h4.trans hp⟩
theorem HpP.grown {w w' : World} {g : Nat} {L : List S65} {row : Option Nat} (h : HpP w g L) (hg : w.grownBy w' row) (hne : some g ≠ row) (hr : ∀ r cs, row = some r → w.heap[r]? ≠ some (.cells cs 148 (0, 0))) : HpP w' g L := by
  obtain ⟨v, t, h1, h2, h3, h4⟩ := h
  exact ⟨v, t, blk_grown h1 hg hne, h2.grown hg hr, h3, h4⟩
theorem HpP.below {w w' : World} {g : Nat} {L : List S65} (h : HpP w g L) (hb : Below w.heap.size w w') : HpP w' g L := h.grown (grown_of_below hb none) (fun e => by cases e) (fun r cs e => by cases e)
theorem HpP.no_node {w : World} {g : Nat} {L : List S65} (h : HpP w g L) : ∀ r cs, some g = some r → w.heap[r]? ≠ some (.cells cs 148 (0, 0)) := by
  obtain ⟨v, t, h1, _⟩ := h
  intro r cs e h2
  cases e
  rw [h1] at h2
  injection h2 with h2
  injection h2 with _ h2
  exact absurd h2 (by decide)
/-- Two heaps: one has been turned. -/
theorem HpP.other {w w' : World} {g g' : Nat} {L L' : List S65} (h : HpP w g L) (h' : HpP w g' L') (hne : g ≠ g') (hg : w.grownBy w' (some g')) : HpP w' g L := h.grown hg (fun e => hne (by cases e; rfl)) h'.no_node
theorem HpP.lt {w : World} {g : Nat} {L : List S65} (h : HpP w g L) : g < w.heap.size := by
  obtain ⟨v, t, h1, _⟩ := h
  exact blk_lt h1

set_option maxHeartbeats 4000000 in
set_option maxRecDepth 100000 in
theorem len.calls (g : Nat) (L : List S65) (w : World) (h : HpP w g L) : Calls Try.prog 92 #[.pointer (some ⟨g, 0, none⟩)] w fun e w' => e = .returned (.int .i64 (L.length : Int)) ∧ w = w' := by
  obtain ⟨v, t, h1, h2, h3, h4⟩ := h
  have HN := Lib.hid (none_no.calls g _ _ _ w rfl h1)
  have c2 : w.cell? ⟨g, 2, none⟩ = some (.int .i64 (L.length : Int)) := (blk_cell h1 2).trans rfl
  clear h1 h2 h3 h4
  generalize (L.length : Int) = n at *
  go_enter Try.func92, Try.ntmps92
  go_wp2_with (go_at_call 108; refine HN.out.mono ?_; rintro e w1 ⟨rfl, rfl⟩)
  go_ret
  exact ⟨rfl, rfl⟩

def put.T3 : Bool × List (List Nat × List Nat) := (true, [([], []), ([], []), ([], []), ([2], [2]), ([3], [3]), ([4], [4]), ([], []), ([6], [6]), ([7], [7]), ([1, 5, 8], [1, 5, 8]), ([0, 0, 1, 2, 3, 4, 5, 6, 7, 8, 9], [0]), ([10, 0, 1, 2, 3, 4, 5, 6, 7, 8, 9], [10]), ([11, 9, 9, 0, 1, 2, 3, 4, 5, 6, 7, 8, 9], [9, 11])])
def put.B3 : List Nat := [0, 0, 0, 4, 12, 28, 0, 64, 192, 510, 1023, 2047, 4095]
theorem put.tab3 : rtab .any (opsOf Try.f88 3) = put.T3 := by kernel_rfl
theorem put.bits3 : waitsOk put.T3.2 put.B3 = true := by kernel_rfl
open Hm in
set_option maxHeartbeats 8000000 in
set_option maxRecDepth 100000 in
theorem put.calls (g : Nat) (x : S65) (L : List S65) (w : World) (h : HpP w g L) (hl : L.length < 1000000) : Calls Try.prog 88 #[.pointer (some ⟨g, 0, none⟩), .agg #[.int .i64 x.f0, .int .i64 x.f1, .int .i64 x.f2, .int .i64 x.f3]] w fun e w' => e = .returned (.bool true) ∧ HpP w' g (x :: L) ∧ w.grownBy w' (some g) := by
  obtain ⟨v, t, h1, h2, h3, h4⟩ := h
  have HN := Lib.hid (fun (W : World) (hb : Below w.heap.size w W) => none_no.calls g _ _ _ W rfl (blk_below h1 hb))
  have HG := Lib.hid h1
  have HND := Lib.hid h2
  have H3 := Lib.hid h3
  have H4 := Lib.hid h4
  have HBA := Lib.hid (below_alloc (Below.refl w.heap.size w) (.cells #[.int .i64 x.f0, .int .i64 x.f1, .int .i64 x.f2, .int .i64 x.f3] 65))
  clear h1 h2 h3 h4
  obtain ⟨n, hn⟩ : ∃ n : Int, (L.length : Int) = n := ⟨_, rfl⟩
  have hn0 : 0 ≤ n := by omega
  have hn1 : n < 1000000 := by omega
  rw [hn] at HG
  have HNN := Lib.hid hn
  clear hn hl
  go_enter Try.func88, Try.ntmps88
  go_wp2_with (go_at_call 108; refine (HN.out _ HBA.out).mono ?_; rintro e w1 ⟨rfl, rfl⟩)
  obtain ⟨W, hW⟩ : ∃ W, w.alloc (.cells #[.int .i64 x.f0, .int .i64 x.f1, .int .i64 x.f2, .int .i64 x.f3] 65) = W := ⟨_, rfl⟩
  have HX := Lib.hid (blk_drew (show W.heap[w.heap.size]? = some (.cells #[.int .i64 x.f0, .int .i64 x.f1, .int .i64 x.f2, .int .i64 x.f3] 65 (0, 0)) by rw [← hW]; exact heap_alloc_new w _))
  have HB := Lib.hid (below_drew1 (show Below w.heap.size w W by rw [← hW]; exact HBA.out))
  replace HG := Lib.hid (blk_drew (show W.heap[g]? = _ by rw [← hW]; exact blk_alloc HG.out _))
  replace HND := Lib.hid (show Nd W v t by rw [← hW]; exact HND.out.alloc _).drew
  rw [hW]
  clear hW HBA HN
  obtain ⟨a0, ha0⟩ : ∃ n, w.heap.size = n := ⟨_, rfl⟩
  rw [ha0] at HX ⊢
  clear ha0
  refine start_ (n := 13) (S := fun w' => w'.cell? ⟨g, 1, none⟩ = some (.pointer v) ∧ w'.cell? ⟨a0, 0, none⟩ = some (.int .i64 x.f0) ∧ w'.cell? ⟨a0, 1, none⟩ = some (.int .i64 x.f1) ∧ w'.cell? ⟨a0, 2, none⟩ = some (.int .i64 x.f2) ∧ w'.cell? ⟨a0, 3, none⟩ = some (.int .i64 x.f3)) (ds := [12]) #[false, false, false, false, false, false, false, false, false, false, false, false, false] (by kernel_rfl) rfl rfl ⟨(blk_cell HG.out 1).trans rfl, (blk_cell HX.out 0).trans rfl, (blk_cell HX.out 1).trans rfl, (blk_cell HX.out 2).trans rfl, (blk_cell HX.out 3).trans rfl⟩ (fun hHeld => ?_); refine with_tabW put.tab3 put.bits3 (fun HT_ HW_ => ?_)
  generalize W.drew = w1 at HG HX HB HND hHeld ⊢
  refine pure_ (i := 0) (N := some 7) (v := ?_) (a' := ?_) #[true, false, false, false, false, false, false, false, false, false, false, false, false] rfl rfl (any_of HT_.out (by kernel_rfl)) (fun _ _ _ h => h) (Or.inl ⟨by rfl, ?_⟩) ?_ ?_
  rotate_left
  · intro w'
    go_simp
    with_reducible rfl
  rotate_left
  · simp only [Act.put, List.setIfInBounds_toArray, List.set_cons_zero, List.set_cons_succ, i64_w, i32_w]
    rfl
  refine pure_ (i := 1) (N := some 8) (v := ?_) (a' := ?_) #[true, true, false, false, false, false, false, false, false, false, false, false, false] rfl rfl (any_of HT_.out (by kernel_rfl)) (fun _ _ _ h => h) (Or.inl ⟨by rfl, ?_⟩) ?_ ?_
  rotate_left
  · intro w'
    go_simp
    with_reducible rfl
  rotate_left
  · simp only [Act.put, List.setIfInBounds_toArray, List.set_cons_zero, List.set_cons_succ, i64_w, i32_w]
    rfl
  refine pure_ (i := 2) (N := some 9) (v := ?_) (a' := ?_) #[true, true, true, false, false, false, false, false, false, false, false, false, false] rfl rfl (any_of HT_.out (by kernel_rfl)) (fun _ _ _ h => h) (Or.inl ⟨by rfl, ?_⟩) ?_ ?_
  rotate_left
  · intro w'
    go_simp
    with_reducible rfl
  rotate_left
  · simp only [Act.put, List.setIfInBounds_toArray, List.set_cons_zero, List.set_cons_succ, i64_w, i32_w]
    rfl
  refine pure_ (i := 3) (N := some 10) (v := ?_) (a' := ?_) #[true, true, true, true, false, false, false, false, false, false, false, false, false] rfl rfl (any_of HT_.out (by kernel_rfl)) (fun _ _ _ h => h) (Or.inl ⟨by rfl, ?_⟩) ?_ ?_
  rotate_left
  · intro w'
    go_simp
    with_reducible rfl
  rotate_left
  · simp only [Act.put, List.setIfInBounds_toArray, List.set_cons_zero, List.set_cons_succ, i64_w, i32_w]
    rfl
  refine pure_ (i := 4) (N := some 11) (v := ?_) (a' := ?_) #[true, true, true, true, true, false, false, false, false, false, false, false, false] rfl rfl (any_of HT_.out (by kernel_rfl)) (fun _ _ _ h => h) (Or.inl ⟨by rfl, ?_⟩) ?_ ?_
  rotate_left
  · intro w'
    go_simp
    with_reducible rfl
  rotate_left
  · simp only [Act.put, List.setIfInBounds_toArray, List.set_cons_zero, List.set_cons_succ, i64_w, i32_w]
    rfl
  refine take_ (i := 5) (N := some 12) (v := ?_) (a' := ?_) #[true, true, true, true, true, true, false, false, false, false, false, false, false] rfl rfl (take_ofW HT_.out HW_.out (by kernel_rfl)) (fun _ _ _ h => h) (Or.inl ⟨by rfl, ?_⟩) hHeld ?_ ?_
  rotate_left
  · rintro w' ⟨s0, s1, s2, s3, s4⟩
    go_simp
    with_reducible rfl
  rotate_left
  · simp only [Act.put, List.setIfInBounds_toArray, List.set_cons_zero, List.set_cons_succ, i64_w, i32_w]
    rfl
  refine take_ (i := 6) (N := some 13) (v := ?_) (a' := ?_) #[true, true, true, true, true, true, true, false, false, false, false, false, false] rfl rfl (take_ofW HT_.out HW_.out (by kernel_rfl)) (fun _ _ _ h => h) (Or.inl ⟨by rfl, ?_⟩) hHeld ?_ ?_
  rotate_left
  · rintro w' ⟨s0, s1, s2, s3, s4⟩
    go_simp
    with_reducible rfl
  rotate_left
  · simp only [Act.put, List.setIfInBounds_toArray, List.set_cons_zero, List.set_cons_succ, i64_w, i32_w]
    rfl
  refine pure_ (i := 7) (N := some 14) (v := ?_) (a' := ?_) #[true, true, true, true, true, true, true, true, false, false, false, false, false] rfl rfl (any_of HT_.out (by kernel_rfl)) (fun _ _ _ h => h) (Or.inl ⟨by rfl, ?_⟩) ?_ ?_
  rotate_left
  · intro w'
    go_simp
    with_reducible rfl
  rotate_left
  · simp only [Act.put, List.setIfInBounds_toArray, List.set_cons_zero, List.set_cons_succ, i64_w, i32_w]
    rfl
  refine one_ (i := 8) (N := some 15) #[true, true, true, true, true, true, true, true, true, false, false, false, false] rfl rfl (one_of HT_.out (by kernel_rfl)) (by decide) (fun K hK => ?_)
  refine event_step (w1 := w1.alloc (.cells #[.int .i64 x.f0, .int .i64 x.f1, .int .i64 x.f2, .int .i64 x.f3, .int .i64 1, .pointer none, .pointer none] 148)) (v := .pointer (some ⟨w1.heap.size, 0, none⟩)) (by rfl) (by go_simp) ?_
  have HC := Lib.hid (heap_alloc_new w1 (.cells #[.int .i64 x.f0, .int .i64 x.f1, .int .i64 x.f2, .int .i64 x.f3, .int .i64 1, .pointer none, .pointer none] 148))
  replace HG := Lib.hid (blk_alloc HG.out (.cells #[.int .i64 x.f0, .int .i64 x.f1, .int .i64 x.f2, .int .i64 x.f3, .int .i64 1, .pointer none, .pointer none] 148))
  replace HX := Lib.hid (blk_alloc HX.out (.cells #[.int .i64 x.f0, .int .i64 x.f1, .int .i64 x.f2, .int .i64 x.f3, .int .i64 1, .pointer none, .pointer none] 148))
  replace HB := Lib.hid (below_alloc HB.out (.cells #[.int .i64 x.f0, .int .i64 x.f1, .int .i64 x.f2, .int .i64 x.f3, .int .i64 1, .pointer none, .pointer none] 148))
  replace HND := Lib.hid (HND.out.alloc (.cells #[.int .i64 x.f0, .int .i64 x.f1, .int .i64 x.f2, .int .i64 x.f3, .int .i64 1, .pointer none, .pointer none] 148))
  obtain ⟨c0, hc0⟩ : ∃ b, w1.heap.size = b := ⟨_, rfl⟩
  rw [hc0] at HC ⊢
  generalize w1.alloc (.cells #[.int .i64 x.f0, .int .i64 x.f1, .int .i64 x.f2, .int .i64 x.f3, .int .i64 1, .pointer none, .pointer none] 148) = w2 at HC HG HX HB HND ⊢
  refine hK.out _ _ ⟨(blk_cell HG.out 1).trans rfl, (blk_cell HX.out 0).trans rfl, (blk_cell HX.out 1).trans rfl, (blk_cell HX.out 2).trans rfl, (blk_cell HX.out 3).trans rfl⟩ (fun hHeld => ?_)
  clear hK K
  refine norm_ (a' := ?_) ?_ ?_
  rotate_left
  · show Act.put _ (some 15) _ = _
    simp only [Act.put, List.setIfInBounds_toArray, List.set_cons_zero, List.set_cons_succ, i64_w, i32_w]
    rfl
  refine one_ (i := 9) (N := some 16) #[true, true, true, true, true, true, true, true, true, true, false, false, false] rfl rfl (one_of HT_.out (by kernel_rfl)) (by decide) (fun K hK => ?_)
  refine goes_ Try.func109 (by kernel_rfl) rfl #[.pointer (some ⟨g, 0, none⟩), .pointer v, .pointer (some ⟨c0, 0, none⟩)] (by rfl) rfl rfl (by (try simp only [List.map_toArray, List.map_cons, List.map_nil]); first | done | rfl) ?_
  refine (meld.calls g _ _ _ t (.node x .leaf .leaf) v (some ⟨c0, 0, none⟩) w2 (Nat.le_refl _) HG.out HND.out ⟨c0, 1, none, none, rfl, HC.out, rfl, rfl⟩ H3.out ⟨by simp [HT.toL], trivial, trivial⟩).mono ?_
  rintro e w3 ⟨v3, t3, rfl, q1, q2, q3, q4⟩
  refine ⟨_, rfl, ?_⟩
  have HQ1 := Lib.hid q1
  have HQ2 := Lib.hid q2
  have HQ3 := Lib.hid q3
  replace HG := Lib.hid (blk_below HG.out q4)
  replace HX := Lib.hid (blk_below HX.out q4)
  replace HB := Lib.hid (below_step HB.out q4)
  clear q1 q2 q3 q4 HND HC
  refine hK.out _ _ ⟨(blk_cell HG.out 1).trans rfl, (blk_cell HX.out 0).trans rfl, (blk_cell HX.out 1).trans rfl, (blk_cell HX.out 2).trans rfl, (blk_cell HX.out 3).trans rfl⟩ (fun hHeld => ?_)
  clear hK K
  refine norm_ (a' := ?_) ?_ ?_
  rotate_left
  · show Act.put _ (some 16) _ = _
    simp only [Act.put, List.setIfInBounds_toArray, List.set_cons_zero, List.set_cons_succ, i64_w, i32_w]
    rfl
  refine pure_ (i := 10) (N := some 17) (v := ?_) (a' := ?_) #[true, true, true, true, true, true, true, true, true, true, true, false, false] rfl rfl (any_of HT_.out (by kernel_rfl)) (fun _ _ _ h => h) (Or.inl ⟨by rfl, ?_⟩) ?_ ?_
  rotate_left
  · intro w'
    go_simp
    with_reducible rfl
  rotate_left
  · simp only [Act.put, List.setIfInBounds_toArray, List.set_cons_zero, List.set_cons_succ, i64_w, i32_w]
    rfl
  refine pure_ (i := 11) (N := some 18) (v := ?_) (a' := ?_) #[true, true, true, true, true, true, true, true, true, true, true, true, false] rfl rfl (any_of HT_.out (by kernel_rfl)) (fun _ _ _ h => h) (Or.inl ⟨by rfl, ?_⟩) ?_ ?_
  rotate_left
  · intro w'
    go_simp
    with_reducible rfl
  rotate_left
  · simp only [Act.put, List.setIfInBounds_toArray, List.set_cons_zero, List.set_cons_succ, i64_w, i32_w]
    rfl
  refine last_ (i := 12) (N := none) #[true, true, true, true, true, true, true, true, true, true, true, true, true] rfl rfl (one_of HT_.out (by kernel_rfl)) (by decide) (fun K hK => ?_)
  have d1 : w3.cell? ⟨g, 1, none⟩ = some (.pointer v) := (blk_cell HG.out 1).trans rfl
  have d2 : w3.cell? ⟨g, 2, none⟩ = some (.int .i64 n) := (blk_cell HG.out 2).trans rfl
  have f1 := blk_frozen HG.out 1
  have f2 := blk_frozen HG.out 2
  refine skip_ (w1 := ?_) (by rfl) rfl ?_ ?_
  rotate_left
  · go_simp
    rfl
  refine hK.out _ _ ?_
  clear hK K
  refine done_ (done_of HT_.out (by kernel_rfl)) ?_
  go_wp2
  go_ret
  have hgr : w.grownBy ((w3.setCell ⟨g, 1, none⟩ (.pointer v3)).setCell ⟨g, 2, none⟩ (.int .i64 (n + 1))) (some g) := ((grown_of_below HB.out (some g)).trans (PxR.grown_set w3 ⟨g, 1, none⟩ _)).trans (PxR.grown_set _ ⟨g, 2, none⟩ _)
  refine ⟨rfl, ⟨v3, t3, ?_, ?_, HQ2.out, ?_⟩, hgr⟩
  · have e : ((x :: L).length : Int) = n + 1 := by rw [← HNN.out]; simp
    rw [e]
    refine blk_put (cs := #[.func (.func 86) #[] #[], .pointer v3, .int .i64 n]) ?_ 2 _ rfl
    exact blk_put (cs := #[.func (.func 86) #[] #[], .pointer v, .int .i64 n]) HG.out 1 _ rfl
  · exact Nd.set (blk_put (cs := #[.func (.func 86) #[] #[], .pointer v, .int .i64 n]) HG.out 1 (.pointer v3) rfl) (by decide) 2 _ (Nd.set HG.out (by decide) 1 _ HQ1.out)
  · refine HQ3.out.trans ((List.Perm.append_right _ H4.out).trans ?_)
    show (L ++ [x]).Perm (x :: L)
    exact List.perm_append_comm
open Hm in
set_option maxHeartbeats 8000000 in
set_option maxRecDepth 100000 in
theorem min_none.calls (g : Nat) (w : World) (h : HpP w g []) : Calls Try.prog 89 #[.pointer (some ⟨g, 0, none⟩)] w fun e w' => e = .returned (.tuple #[.agg #[.int .i64 0, .int .i64 0, .int .i64 0, .int .i64 0], .bool false]) ∧ Below w.heap.size w w' := by
  have HL := Lib.hid (fun (W : World) (hb : Below w.heap.size w W) => len.calls g [] W (h.below hb))
  have HBA := Lib.hid (below_alloc (Below.refl w.heap.size w) (.cells #[.int .i64 0, .int .i64 0, .int .i64 0, .int .i64 0] 65))
  clear h
  go_enter Try.func89, Try.ntmps89
  go_wp2_with (go_at_call 92; refine (HL.out _ HBA.out).mono ?_; rintro e w1 ⟨rfl, rfl⟩)
  exact bodyPost_ret (v := .tuple #[.agg #[.int .i64 0, .int .i64 0, .int .i64 0, .int .i64 0], .bool false]) (by simp [results, Try.results89, go_sem]) rfl ⟨rfl, below_alloc (Below.refl _ _) _⟩
open Hm in
set_option maxHeartbeats 8000000 in
set_option maxRecDepth 100000 in
theorem min.calls (g : Nat) (b : Nat) (d : Int) (pl pr : Option Addr) (x : S65) (L : List S65) (w : World) (h : HpP w g L) (hL : L ≠ []) (n : Value) (hg : w.heap[g]? = some (.cells #[.func (.func 86) #[] #[], .pointer (some ⟨b, 0, none⟩), n] 143 (0, 0))) (hb : w.heap[b]? = some (.cells #[.int .i64 x.f0, .int .i64 x.f1, .int .i64 x.f2, .int .i64 x.f3, .int .i64 d, .pointer pl, .pointer pr] 148 (0, 0))) : Calls Try.prog 89 #[.pointer (some ⟨g, 0, none⟩)] w fun e w' => e = .returned (.tuple #[.agg #[.int .i64 x.f0, .int .i64 x.f1, .int .i64 x.f2, .int .i64 x.f3], .bool true]) ∧ Below w.heap.size w w' := by
  have HL := Lib.hid (fun (W : World) (hb : Below w.heap.size w W) => len.calls g L W (h.below hb))
  have hba := below_alloc (Below.refl w.heap.size w) (.cells #[.int .i64 0, .int .i64 0, .int .i64 0, .int .i64 0] 65)
  have HBA := Lib.hid hba
  have hg2 := blk_below hg hba
  have hb2 := blk_below hb hba
  have c1 := (blk_cell hg2 1).trans rfl
  have e0 := (blk_cell hb2 0).trans rfl
  have e1 := (blk_cell hb2 1).trans rfl
  have e2 := (blk_cell hb2 2).trans rfl
  have e3 := (blk_cell hb2 3).trans rfl
  have hz : ((L.length : Int) == 0) = false := by rw [beq_eq_false_iff_ne]; intro e; exact hL (List.length_eq_zero_iff.1 (by omega))
  clear h hg hb hL hg2 hb2 hba
  generalize (L.length : Int) = nn at *
  go_enter Try.func89, Try.ntmps89
  go_wp2_with (go_at_call 92; refine (HL.out _ HBA.out).mono ?_; rintro e w1 ⟨rfl, rfl⟩)
  exact bodyPost_ret (v := .tuple #[.agg #[.int .i64 x.f0, .int .i64 x.f1, .int .i64 x.f2, .int .i64 x.f3], .bool true]) (by simp [results, Try.results89, go_sem]) rfl ⟨rfl, below_alloc (Below.refl _ _) _⟩
theorem grown_fresh {w A : World} {row : Option Nat} (h : w.grownBy A row) {z : Nat} (hz : w.heap.size ≤ z) (i : Nat) (v : Value) : w.grownBy (A.setCell ⟨z, i, none⟩ v) row :=
  ⟨h.os, h.tape, h.output, by simpa using h.size, fun b hb hne => (Below.heap_setCell _ _ _ _ (by show b ≠ z; omega)).trans (h.block b hb hne)⟩
/-- A job is laid into a block of four cells. -/
def put4 (W : World) (z : Nat) (x : S65) : World := (((W.setCell ⟨z, 0, none⟩ (.int .i64 x.f0)).setCell ⟨z, 1, none⟩ (.int .i64 x.f1)).setCell ⟨z, 2, none⟩ (.int .i64 x.f2)).setCell ⟨z, 3, none⟩ (.int .i64 x.f3)
theorem put4_own {W : World} {z : Nat} {a b c d : Value} (x : S65) (h : W.heap[z]? = some (.cells #[a, b, c, d] 65 (0, 0))) : (put4 W z x).heap[z]? = some (.cells #[.int .i64 x.f0, .int .i64 x.f1, .int .i64 x.f2, .int .i64 x.f3] 65 (0, 0)) :=
  blk_put (cs := #[.int .i64 x.f0, .int .i64 x.f1, .int .i64 x.f2, d]) (blk_put (cs := #[.int .i64 x.f0, .int .i64 x.f1, c, d]) (blk_put (cs := #[.int .i64 x.f0, b, c, d]) (blk_put h 0 _ rfl) 1 _ rfl) 2 _ rfl) 3 _ rfl
theorem put4_grown {w W : World} {row : Option Nat} (h : w.grownBy W row) {z : Nat} (hz : w.heap.size ≤ z) (x : S65) : w.grownBy (put4 W z x) row := grown_fresh (grown_fresh (grown_fresh (grown_fresh h hz _ _) hz _ _) hz _ _) hz _ _
theorem put4_below {B : Nat} {w W : World} (h : Below B w W) {z : Nat} (hz : B ≤ z) (x : S65) : Below B w (put4 W z x) := ((((h.setCell (p := ⟨z, 0, none⟩) hz _).setCell (p := ⟨z, 1, none⟩) hz _).setCell (p := ⟨z, 2, none⟩) hz _).setCell (p := ⟨z, 3, none⟩) hz _)
theorem put4_self {W : World} (z : Nat) (x : S65) : W.grownBy (put4 W z x) (some z) := (((PxR.grown_set W ⟨z, 0, none⟩ _).trans (PxR.grown_set _ ⟨z, 1, none⟩ _)).trans (PxR.grown_set _ ⟨z, 2, none⟩ _)).trans (PxR.grown_set _ ⟨z, 3, none⟩ _)
def take.T3 : Bool × List (List Nat × List Nat) := (true, [([], []), ([], []), ([], []), ([2], [2]), ([3], [3]), ([4], [4]), ([5], [5]), ([6], [6]), ([7], [7]), ([], []), ([9], [9]), ([10], [10]), ([11], [11]), ([12], [12]), ([13], [13]), ([14], [14]), ([1, 8, 15], [1, 8, 15]), ([0, 0, 1, 2, 3, 4, 5, 6, 7, 8, 9, 10, 11, 12, 13, 14, 15, 16], [0]), ([17, 0, 1, 2, 3, 4, 5, 6, 7, 8, 9, 10, 11, 12, 13, 14, 15, 16], [17]), ([18, 16, 16, 0, 1, 2, 3, 4, 5, 6, 7, 8, 9, 10, 11, 12, 13, 14, 15, 16], [16, 18])])
def take.B3 : List Nat := [0, 0, 0, 4, 12, 28, 60, 124, 252, 0, 512, 1536, 3584, 7680, 15872, 32256, 65534, 131071, 262143, 524287]
theorem take.tab3 : rtab .any (opsOf Try.f90 3) = take.T3 := by kernel_rfl
theorem take.bits3 : waitsOk take.T3.2 take.B3 = true := by kernel_rfl
open Hm in
set_option maxHeartbeats 8000000 in
set_option maxRecDepth 100000 in
theorem take.calls (g : Nat) (L : List S65) (w : World) (h : HpP w g L) (hL : L ≠ []) (hl : L.length < 1000000) : ∃ (x : S65) (R : List S65), (x :: R).Perm L ∧ (∀ y ∈ R, jlt y x = false) ∧ Calls Try.prog 90 #[.pointer (some ⟨g, 0, none⟩)] w fun e w' => e = .returned (.tuple #[.agg #[.int .i64 x.f0, .int .i64 x.f1, .int .i64 x.f2, .int .i64 x.f3], .bool true]) ∧ HpP w' g R ∧ w.grownBy w' (some g) := by
  have hh := h
  obtain ⟨v, t, h1, h2, h3, h4⟩ := h
  cases t with
  | leaf => exact absurd (List.Perm.nil_eq h4).symm hL
  | node x l r =>
  obtain ⟨b, d, pl, pr, rfl, hb, hpl, hpr⟩ := h2
  refine ⟨x, l.toL ++ r.toL, h4, h3.1, ?_⟩
  have hba := below_alloc (Below.refl w.heap.size w) (.cells #[.int .i64 0, .int .i64 0, .int .i64 0, .int .i64 0] 65)
  have HBA := Lib.hid hba
  have HMIN := Lib.hid (min.calls g b d pl pr x L (w.alloc (.cells #[.int .i64 0, .int .i64 0, .int .i64 0, .int .i64 0] 65)) (hh.below hba) hL _ (blk_below h1 hba) (blk_below hb hba))
  have hnl : L.length = (l.toL ++ r.toL).length + 1 := by rw [← h4.length_eq]; simp [HT.toL]
  have HOL := Lib.hid h3.2.1
  have HOR := Lib.hid h3.2.2
  have HG := Lib.hid h1
  have HBB := Lib.hid hb
  have HPL := Lib.hid hpl
  have HPR := Lib.hid hpr
  have hgz : g < w.heap.size := hh.lt
  obtain ⟨n, hn⟩ : ∃ n : Int, (L.length : Int) = n := ⟨_, rfl⟩
  have hn0 : 0 < n := by omega
  have hn1 : n < 1000000 := by omega
  rw [hn] at HG
  have HNN := Lib.hid hn
  have HNL := Lib.hid hnl
  clear hn hl hnl h1 h3 h4 hb hpl hpr hh hL hba
  go_enter Try.func90, Try.ntmps90
  go_wp2_with (go_at_call 89; refine HMIN.out.mono ?_; rintro e w2 ⟨rfl, q2⟩; have HB := Lib.hid (below_step HBA.out q2); have HZ := Lib.hid (blk_below (heap_alloc_new w (.cells #[.int .i64 0, .int .i64 0, .int .i64 0, .int .i64 0] 65)) q2); have d0 := (blk_cell HZ.out 0).trans rfl; have d1 := (blk_cell HZ.out 1).trans rfl; have d2 := (blk_cell HZ.out 2).trans rfl; have d3 := (blk_cell HZ.out 3).trans rfl; have f0 := blk_frozen HZ.out 0; have f1 := blk_frozen HZ.out 1; have f2 := blk_frozen HZ.out 2; have f3 := blk_frozen HZ.out 3; clear q2)
  obtain ⟨W, hW⟩ : ∃ W, put4 w2 w.heap.size x = W := ⟨_, rfl⟩
  have hW2 := hW
  unfold put4 at hW2
  rw [hW2]
  have hb3 : Below w.heap.size w W := by rw [← hW]; exact put4_below HB.out (Nat.le_refl _) x
  replace HZ := Lib.hid (blk_drew (show W.heap[w.heap.size]? = _ by rw [← hW]; exact put4_own x HZ.out))
  replace HB := Lib.hid (below_drew1 hb3)
  replace HG := Lib.hid (blk_drew (blk_below HG.out hb3))
  replace HBB := Lib.hid (blk_drew (blk_below HBB.out hb3))
  replace HPL := Lib.hid (HPL.out.below hb3).drew
  replace HPR := Lib.hid (HPR.out.below hb3).drew
  clear d0 d1 d2 d3 f0 f1 f2 f3 hW hW2 hb3 HBA HMIN
  obtain ⟨z, hz⟩ : ∃ z, w.heap.size = z := ⟨_, rfl⟩
  have hgz' : ¬ g = z := by omega
  have hzg' : ¬ z = g := by omega
  have HZL := Lib.hid (show w.heap.size ≤ z by omega)
  rw [hz] at HZ ⊢
  clear hz hgz
  refine start_ (n := 20) (S := fun w' => w'.cell? ⟨g, 1, none⟩ = some (.pointer (some ⟨b, 0, none⟩)) ∧ w'.cell? ⟨b, 5, none⟩ = some (.pointer pl) ∧ w'.cell? ⟨b, 6, none⟩ = some (.pointer pr)) (ds := [19]) #[false, false, false, false, false, false, false, false, false, false, false, false, false, false, false, false, false, false, false, false] (by kernel_rfl) rfl rfl ⟨(blk_cell HG.out 1).trans rfl, (blk_cell HBB.out 5).trans rfl, (blk_cell HBB.out 6).trans rfl⟩ (fun hHeld => ?_); refine with_tabW take.tab3 take.bits3 (fun HT_ HW_ => ?_)
  generalize W.drew = w1 at HG HBB HPL HPR HB HZ hHeld ⊢
  refine pure_ (i := 0) (N := some 10) (v := ?_) (a' := ?_) #[true, false, false, false, false, false, false, false, false, false, false, false, false, false, false, false, false, false, false, false] rfl rfl (any_of HT_.out (by kernel_rfl)) (fun _ _ _ h => h) (Or.inl ⟨by rfl, ?_⟩) ?_ ?_
  rotate_left
  · intro w'
    go_simp
    with_reducible rfl
  rotate_left
  · simp only [Act.put, List.setIfInBounds_toArray, List.set_cons_zero, List.set_cons_succ, i64_w, i32_w]
    rfl
  refine pure_ (i := 1) (N := some 11) (v := ?_) (a' := ?_) #[true, true, false, false, false, false, false, false, false, false, false, false, false, false, false, false, false, false, false, false] rfl rfl (any_of HT_.out (by kernel_rfl)) (fun _ _ _ h => h) (Or.inl ⟨by rfl, ?_⟩) ?_ ?_
  rotate_left
  · intro w'
    go_simp
    with_reducible rfl
  rotate_left
  · simp only [Act.put, List.setIfInBounds_toArray, List.set_cons_zero, List.set_cons_succ, i64_w, i32_w]
    rfl
  refine pure_ (i := 2) (N := some 12) (v := ?_) (a' := ?_) #[true, true, true, false, false, false, false, false, false, false, false, false, false, false, false, false, false, false, false, false] rfl rfl (any_of HT_.out (by kernel_rfl)) (fun _ _ _ h => h) (Or.inl ⟨by rfl, ?_⟩) ?_ ?_
  rotate_left
  · intro w'
    go_simp
    with_reducible rfl
  rotate_left
  · simp only [Act.put, List.setIfInBounds_toArray, List.set_cons_zero, List.set_cons_succ, i64_w, i32_w]
    rfl
  refine pure_ (i := 3) (N := some 13) (v := ?_) (a' := ?_) #[true, true, true, true, false, false, false, false, false, false, false, false, false, false, false, false, false, false, false, false] rfl rfl (any_of HT_.out (by kernel_rfl)) (fun _ _ _ h => h) (Or.inl ⟨by rfl, ?_⟩) ?_ ?_
  rotate_left
  · intro w'
    go_simp
    with_reducible rfl
  rotate_left
  · simp only [Act.put, List.setIfInBounds_toArray, List.set_cons_zero, List.set_cons_succ, i64_w, i32_w]
    rfl
  refine pure_ (i := 4) (N := some 14) (v := ?_) (a' := ?_) #[true, true, true, true, true, false, false, false, false, false, false, false, false, false, false, false, false, false, false, false] rfl rfl (any_of HT_.out (by kernel_rfl)) (fun _ _ _ h => h) (Or.inl ⟨by rfl, ?_⟩) ?_ ?_
  rotate_left
  · intro w'
    go_simp
    with_reducible rfl
  rotate_left
  · simp only [Act.put, List.setIfInBounds_toArray, List.set_cons_zero, List.set_cons_succ, i64_w, i32_w]
    rfl
  refine take_ (i := 5) (N := some 15) (v := ?_) (a' := ?_) #[true, true, true, true, true, true, false, false, false, false, false, false, false, false, false, false, false, false, false, false] rfl rfl (take_ofW HT_.out HW_.out (by kernel_rfl)) (fun _ _ _ h => h) (Or.inl ⟨by rfl, ?_⟩) hHeld ?_ ?_
  rotate_left
  · rintro w' ⟨s0, s1, s2⟩
    go_simp
    with_reducible rfl
  rotate_left
  · simp only [Act.put, List.setIfInBounds_toArray, List.set_cons_zero, List.set_cons_succ, i64_w, i32_w]
    rfl
  refine pure_ (i := 6) (N := some 16) (v := ?_) (a' := ?_) #[true, true, true, true, true, true, true, false, false, false, false, false, false, false, false, false, false, false, false, false] rfl rfl (any_of HT_.out (by kernel_rfl)) (fun _ _ _ h => h) (Or.inl ⟨by rfl, ?_⟩) ?_ ?_
  rotate_left
  · intro w'
    go_simp
    with_reducible rfl
  rotate_left
  · simp only [Act.put, List.setIfInBounds_toArray, List.set_cons_zero, List.set_cons_succ, i64_w, i32_w]
    rfl
  refine pure_ (i := 7) (N := some 17) (v := ?_) (a' := ?_) #[true, true, true, true, true, true, true, true, false, false, false, false, false, false, false, false, false, false, false, false] rfl rfl (any_of HT_.out (by kernel_rfl)) (fun _ _ _ h => h) (Or.inl ⟨by rfl, ?_⟩) ?_ ?_
  rotate_left
  · intro w'
    go_simp
    with_reducible rfl
  rotate_left
  · simp only [Act.put, List.setIfInBounds_toArray, List.set_cons_zero, List.set_cons_succ, i64_w, i32_w]
    rfl
  refine take_ (i := 8) (N := some 18) (v := ?_) (a' := ?_) #[true, true, true, true, true, true, true, true, true, false, false, false, false, false, false, false, false, false, false, false] rfl rfl (take_ofW HT_.out HW_.out (by kernel_rfl)) (fun _ _ _ h => h) (Or.inl ⟨by rfl, ?_⟩) hHeld ?_ ?_
  rotate_left
  · rintro w' ⟨s0, s1, s2⟩
    go_simp
    with_reducible rfl
  rotate_left
  · simp only [Act.put, List.setIfInBounds_toArray, List.set_cons_zero, List.set_cons_succ, i64_w, i32_w]
    rfl
  refine pure_ (i := 9) (N := some 19) (v := ?_) (a' := ?_) #[true, true, true, true, true, true, true, true, true, true, false, false, false, false, false, false, false, false, false, false] rfl rfl (any_of HT_.out (by kernel_rfl)) (fun _ _ _ h => h) (Or.inl ⟨by rfl, ?_⟩) ?_ ?_
  rotate_left
  · intro w'
    go_simp
    with_reducible rfl
  rotate_left
  · simp only [Act.put, List.setIfInBounds_toArray, List.set_cons_zero, List.set_cons_succ, i64_w, i32_w]
    rfl
  refine pure_ (i := 10) (N := some 20) (v := ?_) (a' := ?_) #[true, true, true, true, true, true, true, true, true, true, true, false, false, false, false, false, false, false, false, false] rfl rfl (any_of HT_.out (by kernel_rfl)) (fun _ _ _ h => h) (Or.inl ⟨by rfl, ?_⟩) ?_ ?_
  rotate_left
  · intro w'
    go_simp
    with_reducible rfl
  rotate_left
  · simp only [Act.put, List.setIfInBounds_toArray, List.set_cons_zero, List.set_cons_succ, i64_w, i32_w]
    rfl
  refine pure_ (i := 11) (N := some 21) (v := ?_) (a' := ?_) #[true, true, true, true, true, true, true, true, true, true, true, true, false, false, false, false, false, false, false, false] rfl rfl (any_of HT_.out (by kernel_rfl)) (fun _ _ _ h => h) (Or.inl ⟨by rfl, ?_⟩) ?_ ?_
  rotate_left
  · intro w'
    go_simp
    with_reducible rfl
  rotate_left
  · simp only [Act.put, List.setIfInBounds_toArray, List.set_cons_zero, List.set_cons_succ, i64_w, i32_w]
    rfl
  refine take_ (i := 12) (N := some 22) (v := ?_) (a' := ?_) #[true, true, true, true, true, true, true, true, true, true, true, true, true, false, false, false, false, false, false, false] rfl rfl (take_ofW HT_.out HW_.out (by kernel_rfl)) (fun _ _ _ h => h) (Or.inl ⟨by rfl, ?_⟩) hHeld ?_ ?_
  rotate_left
  · rintro w' ⟨s0, s1, s2⟩
    go_simp
    with_reducible rfl
  rotate_left
  · simp only [Act.put, List.setIfInBounds_toArray, List.set_cons_zero, List.set_cons_succ, i64_w, i32_w]
    rfl
  refine pure_ (i := 13) (N := some 23) (v := ?_) (a' := ?_) #[true, true, true, true, true, true, true, true, true, true, true, true, true, true, false, false, false, false, false, false] rfl rfl (any_of HT_.out (by kernel_rfl)) (fun _ _ _ h => h) (Or.inl ⟨by rfl, ?_⟩) ?_ ?_
  rotate_left
  · intro w'
    go_simp
    with_reducible rfl
  rotate_left
  · simp only [Act.put, List.setIfInBounds_toArray, List.set_cons_zero, List.set_cons_succ, i64_w, i32_w]
    rfl
  refine pure_ (i := 14) (N := some 24) (v := ?_) (a' := ?_) #[true, true, true, true, true, true, true, true, true, true, true, true, true, true, true, false, false, false, false, false] rfl rfl (any_of HT_.out (by kernel_rfl)) (fun _ _ _ h => h) (Or.inl ⟨by rfl, ?_⟩) ?_ ?_
  rotate_left
  · intro w'
    go_simp
    with_reducible rfl
  rotate_left
  · simp only [Act.put, List.setIfInBounds_toArray, List.set_cons_zero, List.set_cons_succ, i64_w, i32_w]
    rfl
  refine take_ (i := 15) (N := some 25) (v := ?_) (a' := ?_) #[true, true, true, true, true, true, true, true, true, true, true, true, true, true, true, true, false, false, false, false] rfl rfl (take_ofW HT_.out HW_.out (by kernel_rfl)) (fun _ _ _ h => h) (Or.inl ⟨by rfl, ?_⟩) hHeld ?_ ?_
  rotate_left
  · rintro w' ⟨s0, s1, s2⟩
    go_simp
    with_reducible rfl
  rotate_left
  · simp only [Act.put, List.setIfInBounds_toArray, List.set_cons_zero, List.set_cons_succ, i64_w, i32_w]
    rfl
  refine one_ (i := 16) (N := some 26) #[true, true, true, true, true, true, true, true, true, true, true, true, true, true, true, true, true, false, false, false] rfl rfl (one_of HT_.out (by kernel_rfl)) (by decide) (fun K hK => ?_)
  refine goes_ Try.func109 (by kernel_rfl) rfl #[.pointer (some ⟨g, 0, none⟩), .pointer pl, .pointer pr] (by rfl) rfl rfl (by (try simp only [List.map_toArray, List.map_cons, List.map_nil]); first | done | rfl) ?_
  refine (meld.calls g _ _ _ l r pl pr w1 (Nat.le_refl _) HG.out HPL.out HPR.out HOL.out HOR.out).mono ?_
  rintro e w3 ⟨v3, t3, rfl, q1, q2, q3, q4⟩
  refine ⟨_, rfl, ?_⟩
  have HQ1 := Lib.hid q1
  have HQ2 := Lib.hid q2
  have HQ3 := Lib.hid q3
  replace HG := Lib.hid (blk_below HG.out q4)
  replace HBB := Lib.hid (blk_below HBB.out q4)
  replace HZ := Lib.hid (blk_below HZ.out q4)
  replace HB := Lib.hid (below_step HB.out q4)
  clear q1 q2 q3 q4 HPL HPR
  refine hK.out _ _ ⟨(blk_cell HG.out 1).trans rfl, (blk_cell HBB.out 5).trans rfl, (blk_cell HBB.out 6).trans rfl⟩ (fun hHeld => ?_)
  clear hK K
  refine norm_ (a' := ?_) ?_ ?_
  rotate_left
  · show Act.put _ (some 26) _ = _
    simp only [Act.put, List.setIfInBounds_toArray, List.set_cons_zero, List.set_cons_succ, i64_w, i32_w]
    rfl
  refine pure_ (i := 17) (N := some 27) (v := ?_) (a' := ?_) #[true, true, true, true, true, true, true, true, true, true, true, true, true, true, true, true, true, true, false, false] rfl rfl (any_of HT_.out (by kernel_rfl)) (fun _ _ _ h => h) (Or.inl ⟨by rfl, ?_⟩) ?_ ?_
  rotate_left
  · intro w'
    go_simp
    with_reducible rfl
  rotate_left
  · simp only [Act.put, List.setIfInBounds_toArray, List.set_cons_zero, List.set_cons_succ, i64_w, i32_w]
    rfl
  refine pure_ (i := 18) (N := some 28) (v := ?_) (a' := ?_) #[true, true, true, true, true, true, true, true, true, true, true, true, true, true, true, true, true, true, true, false] rfl rfl (any_of HT_.out (by kernel_rfl)) (fun _ _ _ h => h) (Or.inl ⟨by rfl, ?_⟩) ?_ ?_
  rotate_left
  · intro w'
    go_simp
    with_reducible rfl
  rotate_left
  · simp only [Act.put, List.setIfInBounds_toArray, List.set_cons_zero, List.set_cons_succ, i64_w, i32_w]
    rfl
  refine last_ (i := 19) (N := none) #[true, true, true, true, true, true, true, true, true, true, true, true, true, true, true, true, true, true, true, true] rfl rfl (one_of HT_.out (by kernel_rfl)) (by decide) (fun K hK => ?_)
  have d1 : w3.cell? ⟨g, 1, none⟩ = some (.pointer (some ⟨b, 0, none⟩)) := (blk_cell HG.out 1).trans rfl
  have d2 : w3.cell? ⟨g, 2, none⟩ = some (.int .i64 n) := (blk_cell HG.out 2).trans rfl
  have f1 := blk_frozen HG.out 1
  have f2 := blk_frozen HG.out 2
  have z0 := (blk_cell HZ.out 0).trans rfl
  have z1 := (blk_cell HZ.out 1).trans rfl
  have z2 := (blk_cell HZ.out 2).trans rfl
  have z3 := (blk_cell HZ.out 3).trans rfl
  have y0 := blk_frozen HZ.out 0
  have y1 := blk_frozen HZ.out 1
  have y2 := blk_frozen HZ.out 2
  have y3 := blk_frozen HZ.out 3
  refine skip_ (w1 := ?_) (by rfl) rfl ?_ ?_
  rotate_left
  · go_simp
    rfl
  refine hK.out _ _ ?_
  clear hK K
  refine done_ (done_of HT_.out (by kernel_rfl)) ?_
  go_wp2
  have hgr : w.grownBy (put4 ((w3.setCell ⟨g, 1, none⟩ (.pointer v3)).setCell ⟨g, 2, none⟩ (.int .i64 (n - 1))) z x) (some g) := put4_grown (((grown_of_below HB.out (some g)).trans (PxR.grown_set w3 ⟨g, 1, none⟩ _)).trans (PxR.grown_set _ ⟨g, 2, none⟩ _)) HZL.out x
  have hgk : (put4 ((w3.setCell ⟨g, 1, none⟩ (.pointer v3)).setCell ⟨g, 2, none⟩ (.int .i64 (n - 1))) z x).heap[g]? = some (.cells #[.func (.func 86) #[] #[], .pointer v3, .int .i64 (n - 1)] 143 (0, 0)) := by
    refine blk_grown ?_ (put4_self z x) (fun e => hgz' (by cases e; rfl))
    refine blk_put (cs := #[.func (.func 86) #[] #[], .pointer v3, .int .i64 n]) ?_ 2 _ rfl
    exact blk_put (cs := #[.func (.func 86) #[] #[], .pointer (some ⟨b, 0, none⟩), .int .i64 n]) HG.out 1 _ rfl
  have hzk : ((w3.setCell ⟨g, 1, none⟩ (.pointer v3)).setCell ⟨g, 2, none⟩ (.int .i64 (n - 1))).heap[z]? = some (.cells #[.int .i64 x.f0, .int .i64 x.f1, .int .i64 x.f2, .int .i64 x.f3] 65 (0, 0)) := (Below.heap_setCell _ ⟨g, 2, none⟩ _ z hzg').trans ((Below.heap_setCell _ ⟨g, 1, none⟩ _ z hzg').trans HZ.out)
  have hnd : Nd (put4 ((w3.setCell ⟨g, 1, none⟩ (.pointer v3)).setCell ⟨g, 2, none⟩ (.int .i64 (n - 1))) z x) v3 t3 := (Nd.set (blk_put (cs := #[.func (.func 86) #[] #[], .pointer (some ⟨b, 0, none⟩), .int .i64 n]) HG.out 1 (.pointer v3) rfl) (by decide) 2 _ (Nd.set HG.out (by decide) 1 _ HQ1.out)).grown (put4_self z x) (fun r cs e h => by cases e; rw [hzk] at h; injection h with h; injection h with _ h; exact absurd h (by decide))
  have hzz := put4_own x hzk
  have hl : ((l.toL ++ r.toL).length : Int) = n - 1 := by have := HNL.out; rw [← HNN.out]; omega
  obtain ⟨WW, hWW⟩ : ∃ WW, put4 ((w3.setCell ⟨g, 1, none⟩ (.pointer v3)).setCell ⟨g, 2, none⟩ (.int .i64 (n - 1))) z x = WW := ⟨_, rfl⟩
  rw [hWW] at hgr hgk hnd hzz
  unfold put4 at hWW
  rw [hWW]
  clear hWW
  have e0 : WW.cell? ⟨z, 0, none⟩ = some (.int .i64 x.f0) := (blk_cell hzz 0).trans rfl
  have e1 : WW.cell? ⟨z, 1, none⟩ = some (.int .i64 x.f1) := (blk_cell hzz 1).trans rfl
  have e2 : WW.cell? ⟨z, 2, none⟩ = some (.int .i64 x.f2) := (blk_cell hzz 2).trans rfl
  have e3 : WW.cell? ⟨z, 3, none⟩ = some (.int .i64 x.f3) := (blk_cell hzz 3).trans rfl
  exact bodyPost_ret (v := .tuple #[.agg #[.int .i64 x.f0, .int .i64 x.f1, .int .i64 x.f2, .int .i64 x.f3], .bool true]) (by simp [results, Try.results90, go_sem, e0, e1, e2, e3]) rfl ⟨rfl, ⟨v3, t3, by rw [hl]; exact hgk, hnd, HQ2.out, HQ3.out⟩, hgr⟩
set_option maxHeartbeats 8000000 in
set_option maxRecDepth 100000 in
theorem take_none.calls (g : Nat) (w : World) (h : HpP w g []) : Calls Try.prog 90 #[.pointer (some ⟨g, 0, none⟩)] w fun e w' => e = .returned (.tuple #[.agg #[.int .i64 0, .int .i64 0, .int .i64 0, .int .i64 0], .bool false]) ∧ Below w.heap.size w w' := by
  have hba := below_alloc (Below.refl w.heap.size w) (.cells #[.int .i64 0, .int .i64 0, .int .i64 0, .int .i64 0] 65)
  have HBA := Lib.hid hba
  have HMIN := Lib.hid (min_none.calls g (w.alloc (.cells #[.int .i64 0, .int .i64 0, .int .i64 0, .int .i64 0] 65)) (h.below hba))
  clear h hba
  go_enter Try.func90, Try.ntmps90
  go_wp2_with (go_at_call 89; refine HMIN.out.mono ?_; rintro e w2 ⟨rfl, q2⟩; have HB := Lib.hid (below_step HBA.out q2); have HZ := Lib.hid (blk_below (heap_alloc_new w (.cells #[.int .i64 0, .int .i64 0, .int .i64 0, .int .i64 0] 65)) q2); have d0 := (blk_cell HZ.out 0).trans rfl; have d1 := (blk_cell HZ.out 1).trans rfl; have d2 := (blk_cell HZ.out 2).trans rfl; have d3 := (blk_cell HZ.out 3).trans rfl; have f0 := blk_frozen HZ.out 0; have f1 := blk_frozen HZ.out 1; have f2 := blk_frozen HZ.out 2; have f3 := blk_frozen HZ.out 3; clear q2)
  obtain ⟨WW, hWW⟩ : ∃ WW, put4 (put4 w2 w.heap.size ⟨0, 0, 0, 0⟩) w.heap.size ⟨0, 0, 0, 0⟩ = WW := ⟨_, rfl⟩
  have hzz : WW.heap[w.heap.size]? = some (.cells #[.int .i64 0, .int .i64 0, .int .i64 0, .int .i64 0] 65 (0, 0)) := by rw [← hWW]; exact put4_own ⟨0, 0, 0, 0⟩ (put4_own ⟨0, 0, 0, 0⟩ HZ.out)
  have hbb : Below w.heap.size w WW := by rw [← hWW]; exact put4_below (put4_below HB.out (Nat.le_refl _) _) (Nat.le_refl _) _
  unfold put4 at hWW
  rw [hWW]
  clear hWW
  have e0 : WW.cell? ⟨w.heap.size, 0, none⟩ = some (.int .i64 0) := (blk_cell hzz 0).trans rfl
  have e1 : WW.cell? ⟨w.heap.size, 1, none⟩ = some (.int .i64 0) := (blk_cell hzz 1).trans rfl
  have e2 : WW.cell? ⟨w.heap.size, 2, none⟩ = some (.int .i64 0) := (blk_cell hzz 2).trans rfl
  have e3 : WW.cell? ⟨w.heap.size, 3, none⟩ = some (.int .i64 0) := (blk_cell hzz 3).trans rfl
  exact bodyPost_ret (v := .tuple #[.agg #[.int .i64 0, .int .i64 0, .int .i64 0, .int .i64 0], .bool false]) (by simp [results, Try.results90, go_sem, e0, e1, e2, e3]) rfl ⟨rfl, hbb⟩
set_option maxHeartbeats 8000000 in
set_option maxRecDepth 100000 in
theorem change.calls (g : Nat) (z : S65) (L : List S65) (w : World) (h : HpP w g L) (hL : L ≠ []) (hl : L.length < 1000000) : ∃ (x : S65) (R : List S65), (x :: R).Perm L ∧ (∀ y ∈ R, jlt y x = false) ∧ Calls Try.prog 91 #[.pointer (some ⟨g, 0, none⟩), .agg #[.int .i64 z.f0, .int .i64 z.f1, .int .i64 z.f2, .int .i64 z.f3]] w fun e w' => e = .returned (.bool true) ∧ HpP w' g (z :: R) ∧ w.grownBy w' (some g) := by
  have hba := below_alloc (Below.refl w.heap.size w) (.cells #[.int .i64 z.f0, .int .i64 z.f1, .int .i64 z.f2, .int .i64 z.f3] 65)
  have hgl := h.lt
  obtain ⟨x, R, h1, h2, h3⟩ := take.calls g L (w.alloc (.cells #[.int .i64 z.f0, .int .i64 z.f1, .int .i64 z.f2, .int .i64 z.f3] 65)) (h.below hba) hL hl
  refine ⟨x, R, h1, h2, ?_⟩
  have HT := Lib.hid h3
  have hR : R.length < 1000000 := by have := h1.length_eq; simp at this; omega
  have HP := Lib.hid (fun (w1 : World) (h : HpP w1 g R) => put.calls g z R w1 h hR)
  have HBA := Lib.hid hba
  have HGL := Lib.hid hgl
  clear h1 h2 h3 h hL hl hR hba hgl
  go_enter Try.func91, Try.ntmps91
  go_wp2_with (first | (go_at_call 90; refine HT.out.mono ?_; rintro e w1 ⟨rfl, q1, q2⟩; have HX := Lib.hid (blk_grown (heap_alloc_new w (.cells #[.int .i64 z.f0, .int .i64 z.f1, .int .i64 z.f2, .int .i64 z.f3] 65)) q2 (fun e => by have := HGL.out; cases e; omega)); have HQ1 := Lib.hid (q1.below (below_alloc (Below.refl _ _) (.cells #[.int .i64 x.f0, .int .i64 x.f1, .int .i64 x.f2, .int .i64 x.f3] 65))); have HQ2 := Lib.hid (((grown_of_below HBA.out (some g)).trans q2).trans (World.grownBy_alloc w1 (.cells #[.int .i64 x.f0, .int .i64 x.f1, .int .i64 x.f2, .int .i64 x.f3] 65) (some g))); have x0 := (blk_cell HX.out 0).trans rfl; have x1 := (blk_cell HX.out 1).trans rfl; have x2 := (blk_cell HX.out 2).trans rfl; have x3 := (blk_cell HX.out 3).trans rfl; have hlt := blk_lt HX.out; clear q1 q2) | (go_at_call 88; refine (HP.out _ HQ1.out).mono ?_; rintro e w2 ⟨rfl, q3, q4⟩; have HQ3 := Lib.hid q3; have HQ4 := Lib.hid q4; clear q3 q4))
  trace_state
  go_ret
  exact ⟨rfl, HQ3.out, HQ2.out.trans HQ4.out⟩
def heapSeq.T2 : Bool × List (List Nat × List Nat) := (true, [([], []), ([], []), ([1], [1]), ([2], [2]), ([3], [3]), ([], []), ([5], [5]), ([6], [6]), ([7], [7]), ([0, 4, 8], [0, 4, 8]), ([9, 9, 0, 1, 2, 3, 4, 5, 6, 7, 8, 9], [1, 5, 9])])
def heapSeq.B2 : List Nat := [0, 0, 2, 6, 14, 0, 32, 96, 224, 511, 1023]
theorem heapSeq.tab2 : rtab .any (opsOf Try.f121 2) = heapSeq.T2 := by kernel_rfl
theorem heapSeq.bits2 : waitsOk heapSeq.T2.2 heapSeq.B2 = true := by kernel_rfl
/-- What a round of a loop over a heap keeps: the heap, and all nodes. -/
def HKeep (g Bh : Nat) (W W' : World) : Prop := W'.heap[Bh]? = W.heap[Bh]? ∧ W'.heap[g]? = W.heap[g]? ∧ ∀ (b : Nat) (cs : Array Value), W.heap[b]? = some (Obj.cells cs 148 (0, 0)) → W'.heap[b]? = some (Obj.cells cs 148 (0, 0))
open Hm in
theorem Nd.keep {g Bh : Nat} {W W' : World} (hk : HKeep g Bh W W') : ∀ {p : Option Addr} {t : HT S65}, Nd W p t → Nd W' p t
  | _, .leaf, h => h
  | _, .node x l r, h => by
    obtain ⟨b, d, pl, pr, h1, h2, h3, h4⟩ := h
    exact ⟨b, d, pl, pr, h1, hk.2.2 b _ h2, h3.keep hk, h4.keep hk⟩
def Desc (l : List S65) : Prop := l.Pairwise (fun a b => jlt b a = false)
set_option maxHeartbeats 4000000 in
set_option maxRecDepth 100000 in
theorem heapAll.calls (g : Nat) (w : World) : Calls Try.prog 112 #[.pointer (some ⟨g, 0, none⟩)] w fun e w' => ∃ Bh, e = .returned (.func (.func 121) #[] #[.pointer (some ⟨Bh, 0, none⟩)]) ∧ w.heap.size ≤ Bh ∧ w'.heap[Bh]? = some (.cells #[.pointer (some ⟨g, 0, none⟩)] 123 (0, 0)) ∧ Below w.heap.size w w' := by
  go_enter Try.func112, Try.ntmps112
  go_wp2
  go_ret
  exact ⟨w.heap.size, rfl, Nat.le_refl _, heap_alloc_new w _, below_alloc (Below.refl _ _) _⟩
open Hm in
set_option maxHeartbeats 8000000 in
set_option maxRecDepth 100000 in
attribute [local go_sem] Oper.semAt_some in
theorem heap_seq (g Bh : Nat) (L : List S65) (w : World) (hB : w.heap[Bh]? = some (.cells #[.pointer (some ⟨g, 0, none⟩)] 123 (0, 0))) (hg : HpP w g L) (n : Nat) (hn : 3 ≤ n) :
    PxR.SeqX Fence.wide n Try.prog 121 #[.pointer (some ⟨Bh, 0, none⟩)] (fun x : S65 => #[.agg #[.int .i64 x.f0, .int .i64 x.f1, .int .i64 x.f2, .int .i64 x.f3]]) (HKeep g Bh) (fun _ _ => False) (fun ys => ys.Perm L ∧ Desc ys) (fun _ => True) L.length w := by
  intro l J Jx W hW hJ hJx hY h0
  refine callsIn_wide.2 ?_
  simp only [List.append_toArray, List.cons_append, List.nil_append]
  replace hB := blk_below hB hW
  obtain ⟨v, t, g1, g2, g3, g4⟩ := hg.below hW
  have c1 : W.cell? ⟨Bh, 0, none⟩ = some (.pointer (some ⟨g, 0, none⟩)) := (blk_cell hB 0).trans rfl
  have c2 : W.cell? ⟨g, 1, none⟩ = some (.pointer v) := (blk_cell g1 1).trans rfl
  have HBH := Lib.hid hB
  have HG := Lib.hid g1
  have HND := Lib.hid g2
  have HO := Lib.hid g3
  have HPM := Lib.hid g4
  have HN := Lib.hid hn
  have HJ := Lib.hid hJ
  have HY := Lib.hid hY
  have H0 := Lib.hid h0
  obtain ⟨nn, hnn⟩ : ∃ nn : Value, .int .i64 (L.length : Int) = nn := ⟨_, rfl⟩
  rw [hnn] at HG
  clear hB g1 g2 g3 g4 hg hn hJ hJx hY h0 hW hnn
  go_enter Try.func121, Try.ntmps121
  go_wp2
  refine (wpIn_wide (n := n)).1 ?_
  gi_loopg [3] (L.length + 1) (fun k v3 wr => ∃ (pre : List S65) (t : HT S65) (p : Option Addr), v3 = .pointer p ∧ Hid (t.toL.length < k) ∧ Hid (Nd wr p t ∧ t.ord jlt ∧ (pre ++ t.toL).Perm L ∧ Desc pre ∧ ∀ x ∈ pre, ∀ y ∈ t.toL, jlt y x = false) ∧ Hid (wr.heap[Bh]? = some (.cells #[.pointer (some ⟨g, 0, none⟩)] 123 (0, 0))) ∧ Hid (wr.heap[g]? = some (.cells #[.func (.func 86) #[] #[], .pointer v, nn] 143 (0, 0))) ∧ Hid (J pre wr))
  case atStart => exact ⟨[], t, v, rfl, Lib.hid (by have := HPM.out.length_eq; omega), ⟨HND.out, HO.out, HPM.out, List.Pairwise.nil, fun x hx => by cases hx⟩, HBH, HG, H0⟩
  case round =>
    clear HND HO HPM H0 HBH HG
    obtain ⟨pre, t, p, rfl, HK, HTR, HBH, HG, HJ0⟩ := hrel
    cases t with
    | leaf =>
      have hp : p = none := HTR.out.1
      subst hp
      have HE : Hid (J pre wr ∧ pre.Perm L ∧ Desc pre) := ⟨HJ0.out, by have := HTR.out.2.2.1; simpa [HT.toL] using this, HTR.out.2.2.2.1⟩
      gi_wp2
      try rw [Exit.noGoto_normal]
      go_end0
      exact ⟨⟨_, rfl⟩, Or.inl ⟨pre, HE.out.2, HE.out.1⟩⟩
    | node x l0 r0 =>
      obtain ⟨b, d, pl, pr, hp, hb, hpl, hpr⟩ := HTR.out.1
      subst hp
      have cx0 : wr.cell? ⟨b, 0, none⟩ = some (.int .i64 x.f0) := (blk_cell hb 0).trans rfl
      have cx1 : wr.cell? ⟨b, 1, none⟩ = some (.int .i64 x.f1) := (blk_cell hb 1).trans rfl
      have cx2 : wr.cell? ⟨b, 2, none⟩ = some (.int .i64 x.f2) := (blk_cell hb 2).trans rfl
      have cx3 : wr.cell? ⟨b, 3, none⟩ = some (.int .i64 x.f3) := (blk_cell hb 3).trans rfl
      have HOL := Lib.hid HTR.out.2.1.2.1
      have HOR := Lib.hid HTR.out.2.1.2.2
      have HXR := Lib.hid HTR.out.2.1.1
      have HND := Lib.hid HTR.out.1
      have hlen : pre.length < L.length := by have := HTR.out.2.2.1.length_eq; simp [HT.toL] at this; omega
      have HLE := Lib.hid hlen
      have HPM := Lib.hid HTR.out.2.2
      clear hb hpl hpr hlen HTR
      obtain ⟨fn, tmps, assign, body, hy, hR⟩ := HY.out pre x wr HJ0.out HLE.out
      have HR1 := Lib.hid hR
      clear hR
      gi_wp2
      refine ⟨fun _ => by have := HN.out; omega, HR1.out.mono ?_⟩
      rintro e W3 (⟨rfl, hJ3, hk3⟩ | ⟨rfl, hJx3⟩)
      · have HB3 : Hid (W3.heap[Bh]? = some (.cells #[.pointer (some ⟨g, 0, none⟩)] 123 (0, 0))) := hk3.1.trans HBH.out
        have HG3 : Hid (W3.heap[g]? = some (.cells #[.func (.func 86) #[] #[], .pointer v, nn] 143 (0, 0))) := hk3.2.1.trans HG.out
        have HN3 := Lib.hid (HND.out.keep hk3)
        have HJ3 := Lib.hid hJ3
        clear hJ3 hk3 HBH HG HND HJ0
        gi_wp2
        obtain ⟨b', d', pl', pr', e', hb', hpl', hpr'⟩ := HN3.out
        cases e'
        have HBB := Lib.hid (blk_drew hb')
        have HPL := Lib.hid hpl'.drew
        have HPR := Lib.hid hpr'.drew
        have HBH := Lib.hid (blk_drew HB3.out)
        have HG := Lib.hid (blk_drew HG3.out)
        have HJ4 : Hid (J (pre ++ [x]) W3.drew) := HJ.out _ _ _ none HJ3.out (grown_of_below (below_drew (Below.refl _ _)) none) (fun r e => by cases e)
        clear hb' hpl' hpr' HB3 HG3 HN3 HJ3
        refine (wpIn_wide (n := n)).2 ?_
        refine start_ (n := 11) (S := fun w' => w'.cell? ⟨Bh, 0, none⟩ = some (.pointer (some ⟨g, 0, none⟩)) ∧ w'.cell? ⟨b, 5, none⟩ = some (.pointer pl') ∧ w'.cell? ⟨b, 6, none⟩ = some (.pointer pr')) (ds := []) #[false, false, false, false, false, false, false, false, false, false, false] (by kernel_rfl) rfl rfl ⟨(blk_cell HBH.out 0).trans rfl, (blk_cell HBB.out 5).trans rfl, (blk_cell HBB.out 6).trans rfl⟩ (fun hHeld => ?_); refine with_tabW heapSeq.tab2 heapSeq.bits2 (fun HT_ HW_ => ?_)
        generalize W3.drew = w4 at HBH HG HBB HPL HPR HJ4 hHeld ⊢
        refine take_ (i := 0) (N := some 10) (v := ?_) (a' := ?_) #[true, false, false, false, false, false, false, false, false, false, false] rfl rfl (take_ofW HT_.out HW_.out (by kernel_rfl)) (fun _ _ _ h => h) (Or.inl ⟨by rfl, ?_⟩) hHeld ?_ ?_
        rotate_left
        · rintro w' ⟨s0, s1, s2⟩
          go_simp
          with_reducible rfl
        rotate_left
        · simp only [Act.put, List.setIfInBounds_toArray, List.set_cons_zero, List.set_cons_succ, i64_w, i32_w]
          rfl
        refine pure_ (i := 1) (N := some 11) (v := ?_) (a' := ?_) #[true, true, false, false, false, false, false, false, false, false, false] rfl rfl (any_of HT_.out (by kernel_rfl)) (fun _ _ _ h => h) (Or.inl ⟨by rfl, ?_⟩) ?_ ?_
        rotate_left
        · intro w'
          go_simp
          with_reducible rfl
        rotate_left
        · simp only [Act.put, List.setIfInBounds_toArray, List.set_cons_zero, List.set_cons_succ, i64_w, i32_w]
          rfl
        refine pure_ (i := 2) (N := some 12) (v := ?_) (a' := ?_) #[true, true, true, false, false, false, false, false, false, false, false] rfl rfl (any_of HT_.out (by kernel_rfl)) (fun _ _ _ h => h) (Or.inl ⟨by rfl, ?_⟩) ?_ ?_
        rotate_left
        · intro w'
          go_simp
          with_reducible rfl
        rotate_left
        · simp only [Act.put, List.setIfInBounds_toArray, List.set_cons_zero, List.set_cons_succ, i64_w, i32_w]
          rfl
        refine pure_ (i := 3) (N := some 13) (v := ?_) (a' := ?_) #[true, true, true, true, false, false, false, false, false, false, false] rfl rfl (any_of HT_.out (by kernel_rfl)) (fun _ _ _ h => h) (Or.inl ⟨by rfl, ?_⟩) ?_ ?_
        rotate_left
        · intro w'
          go_simp
          with_reducible rfl
        rotate_left
        · simp only [Act.put, List.setIfInBounds_toArray, List.set_cons_zero, List.set_cons_succ, i64_w, i32_w]
          rfl
        refine take_ (i := 4) (N := some 14) (v := ?_) (a' := ?_) #[true, true, true, true, true, false, false, false, false, false, false] rfl rfl (take_ofW HT_.out HW_.out (by kernel_rfl)) (fun _ _ _ h => h) (Or.inl ⟨by rfl, ?_⟩) hHeld ?_ ?_
        rotate_left
        · rintro w' ⟨s0, s1, s2⟩
          go_simp
          with_reducible rfl
        rotate_left
        · simp only [Act.put, List.setIfInBounds_toArray, List.set_cons_zero, List.set_cons_succ, i64_w, i32_w]
          rfl
        refine pure_ (i := 5) (N := some 15) (v := ?_) (a' := ?_) #[true, true, true, true, true, true, false, false, false, false, false] rfl rfl (any_of HT_.out (by kernel_rfl)) (fun _ _ _ h => h) (Or.inl ⟨by rfl, ?_⟩) ?_ ?_
        rotate_left
        · intro w'
          go_simp
          with_reducible rfl
        rotate_left
        · simp only [Act.put, List.setIfInBounds_toArray, List.set_cons_zero, List.set_cons_succ, i64_w, i32_w]
          rfl
        refine pure_ (i := 6) (N := some 16) (v := ?_) (a' := ?_) #[true, true, true, true, true, true, true, false, false, false, false] rfl rfl (any_of HT_.out (by kernel_rfl)) (fun _ _ _ h => h) (Or.inl ⟨by rfl, ?_⟩) ?_ ?_
        rotate_left
        · intro w'
          go_simp
          with_reducible rfl
        rotate_left
        · simp only [Act.put, List.setIfInBounds_toArray, List.set_cons_zero, List.set_cons_succ, i64_w, i32_w]
          rfl
        refine pure_ (i := 7) (N := some 17) (v := ?_) (a' := ?_) #[true, true, true, true, true, true, true, true, false, false, false] rfl rfl (any_of HT_.out (by kernel_rfl)) (fun _ _ _ h => h) (Or.inl ⟨by rfl, ?_⟩) ?_ ?_
        rotate_left
        · intro w'
          go_simp
          with_reducible rfl
        rotate_left
        · simp only [Act.put, List.setIfInBounds_toArray, List.set_cons_zero, List.set_cons_succ, i64_w, i32_w]
          rfl
        refine take_ (i := 8) (N := some 18) (v := ?_) (a' := ?_) #[true, true, true, true, true, true, true, true, true, false, false] rfl rfl (take_ofW HT_.out HW_.out (by kernel_rfl)) (fun _ _ _ h => h) (Or.inl ⟨by rfl, ?_⟩) hHeld ?_ ?_
        rotate_left
        · rintro w' ⟨s0, s1, s2⟩
          go_simp
          with_reducible rfl
        rotate_left
        · simp only [Act.put, List.setIfInBounds_toArray, List.set_cons_zero, List.set_cons_succ, i64_w, i32_w]
          rfl
        refine one_ (i := 9) (N := some 19) #[true, true, true, true, true, true, true, true, true, true, false] rfl rfl (one_of HT_.out (by kernel_rfl)) (by decide) (fun K hK => ?_)
        refine goes_ Try.func109 (by kernel_rfl) rfl #[.pointer (some ⟨g, 0, none⟩), .pointer pl', .pointer pr'] (by rfl) rfl rfl (by (try simp only [List.map_toArray, List.map_cons, List.map_nil]); first | done | rfl) ?_
        refine (meld.calls g _ _ _ l0 r0 pl' pr' w4 (Nat.le_refl _) HG.out HPL.out HPR.out HOL.out HOR.out).mono ?_
        rintro e w5 ⟨v5, t5, rfl, q1, q2, q3, q4⟩
        refine ⟨_, rfl, ?_⟩
        have HQ1 := Lib.hid q1
        have HQ2 := Lib.hid q2
        have HQ3 := Lib.hid q3
        replace HG := Lib.hid (blk_below HG.out q4)
        replace HBH := Lib.hid (blk_below HBH.out q4)
        replace HBB := Lib.hid (blk_below HBB.out q4)
        replace HJ4 := Lib.hid (HJ.out _ _ _ none HJ4.out (grown_of_below q4 none) (fun r e => by cases e))
        clear q1 q2 q3 q4 HPL HPR
        refine hK.out _ _ ⟨(blk_cell HBH.out 0).trans rfl, (blk_cell HBB.out 5).trans rfl, (blk_cell HBB.out 6).trans rfl⟩ (fun hHeld => ?_)
        clear hK K
        refine norm_ (a' := ?_) ?_ ?_
        rotate_left
        · show Act.put _ (some 19) _ = _
          simp only [Act.put, List.setIfInBounds_toArray, List.set_cons_zero, List.set_cons_succ, i64_w, i32_w]
          rfl
        refine pure_ (i := 10) (N := some 3) (v := ?_) (a' := ?_) #[true, true, true, true, true, true, true, true, true, true, true] rfl rfl (any_of HT_.out (by kernel_rfl)) (fun _ _ _ h => h) (Or.inl ⟨by rfl, ?_⟩) ?_ ?_
        rotate_left
        · intro w'
          go_simp
          with_reducible rfl
        rotate_left
        · simp only [Act.put, List.setIfInBounds_toArray, List.set_cons_zero, List.set_cons_succ, i64_w, i32_w]
          rfl
        refine done_ (done_of HT_.out (by kernel_rfl)) ?_
        try gi_wp2
        go_roundg (t5.toL.length + 1)
        case measure => have := HK.out; have := HQ3.out.length_eq; simp [HT.toL] at *; omega
        case rel =>
          have hpm := HPM.out
          have hp3 : (pre ++ [x] ++ t5.toL).Perm L := by
            rw [List.append_assoc]
            exact (List.Perm.append_left pre (List.Perm.cons x HQ3.out)).trans hpm.1
          refine ⟨pre ++ [x], t5, v5, rfl, Lib.hid (Nat.lt_succ_self _), ⟨HQ1.out, HQ2.out, hp3, ?_, ?_⟩, HBH, HG, HJ4⟩
          · refine List.pairwise_append.2 ⟨hpm.2.1, by simp, fun a ha c hc => ?_⟩
            obtain rfl := List.mem_singleton.1 hc
            exact hpm.2.2 a ha c (by simp [HT.toL])
          · intro a ha y hy
            have hy2 := HQ3.out.mem_iff.1 hy
            rcases List.mem_append.1 ha with h | h
            · exact hpm.2.2 a h y (List.mem_cons_of_mem _ hy2)
            · obtain rfl := List.mem_singleton.1 h
              exact HXR.out y hy2
      · have HJX3 := Lib.hid hJx3
        clear hJx3
        gi_wp2
        try rw [Exit.noGoto_ret]
        try simp only [Exit.inBlock, Exit.then]
        refine bodyPost_ret (results_none rfl _ _ _) rfl ?_
        exact ⟨⟨_, rfl⟩, Or.inr ⟨pre ++ [x], trivial, HJX3.out⟩⟩
theorem cells_new4 (w : World) (a b c d : Value) (t : TypeId) : ∀ j u, [a, b, c, d][j]? = some u → (w.alloc (.cells #[a, b, c, d] t)).cell? ((⟨w.heap.size, 0, none⟩ : Addr).add j) = some u := by
  intro j u hj
  have h := blk_cell (heap_alloc_new w (.cells #[a, b, c, d] t)) j
  have e : (⟨w.heap.size, 0, none⟩ : Addr).add j = ⟨w.heap.size, j, none⟩ := by unfold Addr.add; split <;> simp_all
  rw [e, h]
  simpa using hj
/-- The cells of a job. -/
def jcl (x : S65) : List Value := [.int .i64 x.f0, .int .i64 x.f1, .int .i64 x.f2, .int .i64 x.f3]
theorem jcl_len (xs : List S65) : (xs.flatMap jcl).length = xs.length * 4 := by
  induction xs with
  | nil => rfl
  | cons x xs ih => simp only [List.flatMap_cons, List.length_append, ih, List.length_cons, jcl, List.length_nil]; omega
theorem jcl_at : ∀ (xs : List S65) (j : Nat) (p : S65), xs[j]? = some p → List.take 4 (List.drop (j * 4) (xs.flatMap jcl)) = jcl p
  | [], j, p, h => by simp at h
  | x :: xs, 0, p, h => by
    simp only [List.getElem?_cons_zero, Option.some.injEq] at h
    subst h
    rfl
  | x :: xs, j + 1, p, h => by
    rw [show (j + 1) * 4 = 4 + j * 4 by omega, List.flatMap_cons, ← List.drop_drop, show List.drop 4 (jcl x ++ xs.flatMap jcl) = xs.flatMap jcl from rfl]
    exact jcl_at xs j p (by simpa using h)
theorem jown_R {W : World} {base base' e : Nat} {v : Value} {xs : List S65} (h : W.ownsRow base e 4 v xs.length (xs.flatMap jcl)) (hb : base' ≤ base) : Kd.R k65 e W base' (fun _ => True) v xs := by
  refine ⟨fun _ _ => trivial, xs.flatMap jcl, ⟨h.1, ?_⟩, jcl_len xs, fun j p hp => ?_⟩
  · rcases h.2 with h' | ⟨g, cap, cur, h1, h2, h3⟩
    · exact .inl h'
    · exact .inr ⟨g, cap, cur, h1, Nat.le_trans hb h2, h3⟩
  · show k65.M W base' _ p (List.take 4 (List.drop (j * 4) (xs.flatMap jcl)))
    rw [jcl_at xs j p hp]
    exact k65_mkM _ _ _ p
theorem jnode_row {W : World} {base n b : Nat} {v : Value} {xs : List Value} {cs : Array Value} (h : W.ownsRow base 65 4 v n xs) (hb : W.heap[b]? = some (.cells cs 148 (0, 0))) : some b ≠ v.ownBlock := fun e => by
  obtain ⟨cells, hc⟩ := own_typed h b e.symm
  rw [hb] at hc
  injection hc with hc
  injection hc with _ hc
  exact absurd hc (by decide)
set_option maxHeartbeats 8000000 in
set_option maxRecDepth 100000 in
attribute [local go_sem] Oper.semAt_some in
theorem list.calls (g : Nat) (L : List S65) (w : World) (h : HpP w g L) (hl : L.length < 1000000) : Calls Try.prog 99 #[.pointer (some ⟨g, 0, none⟩)] w fun e w' => ∃ (v : Value) (xs : List S65), e = .returned v ∧ xs.Perm L ∧ Desc xs ∧ Kd.R k65 65 w' w.heap.size (fun _ => True) v xs ∧ Below w.heap.size w w' := by
  obtain ⟨v0, t0, g1, _⟩ := id h
  have HN := Lib.hid (none_no.calls g _ _ _ w rfl g1)
  have HH := Lib.hid h
  have glt := h.lt
  clear h g1
  refine (callsIn_wide (n := 5)).1 ?_
  refine callsIn_of_wp_marks Try.func99 rfl trivial ?_ rfl
  simp only [Try.ntmps99, List.size_toArray, List.length_cons, List.length_nil, Nat.reduceAdd, Nat.reduceSub, Array.replicate_succ, Array.replicate_zero, List.push_toArray, List.append_toArray, List.nil_append, List.cons_append]
  refine (wpIn_wide (n := 5)).2 ?_
  go_wp2_with (first
    | (go_at_call 108; refine HN.out.mono ?_; rintro e w1 ⟨rfl, rfl⟩)
    | (go_at_call 112; refine (heapAll.calls g _).mono ?_; rintro e w2 ⟨Bh, rfl, q1, q2, q3⟩; have HQ1 := Lib.hid q1; have HQ2 := Lib.hid q2; have HQ3 := Lib.hid q3; clear q1 q2 q3))
  obtain ⟨be, hbe⟩ : ∃ b, w.heap.size = b := ⟨_, rfl⟩
  have q3 := HQ3.out
  have q1 := HQ1.out
  have he2 : w2.heap[be]? = some (.cells #[.slice none 0 0] 60 (0, 0)) := (q3.block _ (by simp; omega)).trans (by rw [← hbe]; exact heap_alloc_new w _)
  have hww : Below w.heap.size w w2 := below_step (below_alloc (Below.refl _ _) _) q3
  have hh2 : HpP w2 g L := HH.out.below hww
  have sl : be < Bh := by simp at q1; omega
  have zl : Bh < w2.heap.size := blk_lt HQ2.out
  have HB2 := HQ2.out
  rw [hbe]
  have hw1 : w.heap.size ≤ be := by omega
  have gbe : g ≠ be := by omega
  have hgb : g ≠ Bh := by omega
  clear HQ1 HQ2 HQ3 q1 q3
  have g2lt := hh2.lt
  obtain ⟨i0, hi0, hz0, hz1, hz2⟩ := info_parts info65
  refine (wpIn_wide (n := 5)).1 ?_
  refine PxR.rangeXA rfl (by omega) (gf := 121) (lb := #[.pointer (some ⟨Bh, 0, none⟩)]) rfl trivial (enters_of Try.func121 (by kernel_rfl) rfl) (heap_seq g Bh L w2 HB2 hh2 4 (by omega)) ?kt ?kb (Below.refl _ _) (fun _ => rfl) ?ok (fun pre W => Below w.heap.size w W ∧ w2.heap.size ≤ W.heap.size ∧ ∃ v, W.heap[be]? = some (.cells #[v] 60 (0, 0)) ∧ W.ownsRow w2.heap.size 65 4 v pre.length (pre.flatMap jcl)) (fun _ _ _ => False) ?hI ?hIx ⟨hww, Nat.le_refl _, _, he2, by simp, .inl ⟨rfl, rfl⟩⟩ (fun x => .cells #[.int .i64 x.f0, .int .i64 x.f1, .int .i64 x.f2, .int .i64 x.f3] 65 (0, 0)) ?ka (fun x z => { tmps := #[.pointer (some ⟨g, 0, none⟩), undef, .slice none 0 0, .pointer (some ⟨be, 0, none⟩), .pointer (some ⟨z, 0, none⟩), .pointer (some ⟨g, 0, none⟩), .bool false, .pointer (some ⟨g, 0, none⟩), .func (.func 121) #[] #[.pointer (some ⟨Bh, 0, none⟩)], .agg #[.int .i64 x.f0, .int .i64 x.f1, .int .i64 x.f2, .int .i64 x.f3], undef, undef, undef, undef, undef], defers := [] }) ?assign ?body ?done ?stop
  case kt => exact fun h k => ⟨k.1.trans h.1, k.2.1.trans h.2.1, fun b cs hb => k.2.2 b cs (h.2.2 b cs hb)⟩
  case kb =>
    intro W o o' h hc
    refine ⟨World.putObj_heap_other (by omega), World.putObj_heap_other (by omega), fun b cs hb => ?_⟩
    have hne : w2.heap.size + 1 ≠ b := fun e => by
      subst e
      rw [hb] at h
      cases h
      exact absurd hc (by simp [Obj.isCells])
    exact (World.putObj_heap_other (Ne.symm hne)).trans hb
  case ok => exact fun r hr => hr.elim
  case hI =>
    rintro s A B row ⟨h1, h2, v, hv, hown⟩ hgr hr
    have hz := (Array.getElem?_eq_some_iff.1 hv).1
    have ho : ∀ r, row = some r → (r = w2.heap.size ∨ r = w2.heap.size + 1) ∧ ∃ o : Obj, A.heap[r]? = some o ∧ o.isCells = false := fun r e => by
      rcases hr r e with h | h
      · exact h.elim
      · exact h
    refine ⟨h1.grown hgr (by omega) (fun r e => by have := (ho r e).1; omega), Nat.le_trans h2 hgr.size, v, PxR.blk_other hgr hv (fun e => by have := (ho _ e.symm).1; omega), ?_⟩
    cases row with
    | none => exact hown.kept hgr (by cases v.ownBlock <;> simp)
    | some r => exact hown.kept hgr (PxR.own_ne hown (Or.inr (ho r rfl).2))
  case hIx => exact fun _ _ _ _ _ hs _ _ => hs
  case ka => exact fun W o hs => ⟨Below.heap_alloc W o _ (by omega), Below.heap_alloc W o _ (by omega), fun b cs hb => (Below.heap_alloc W o _ (blk_lt hb)).trans hb⟩
  case assign =>
    intro l x W K hK
    gi_wp2_with (rw [Oper.semAt_eq _ _ _ (fun c h => by cases h)]; go_simp; try go_bits)
    exact hK
  case body =>
    rintro l pre x z W ⟨hb, h2, v, hc, hown⟩ hlen2 hzb hzc
    have c1 : W.cell? ⟨be, 0, none⟩ = some v := (blk_cell hc 0).trans rfl
    have f1 : W.frozen? ⟨be, 0, none⟩ = false := blk_frozen hc 0
    have e0 : W.cell? ⟨z, 0, none⟩ = some (.int .i64 x.f0) := (blk_cell hzc 0).trans rfl
    have e1 : W.cell? ⟨z, 1, none⟩ = some (.int .i64 x.f1) := (blk_cell hzc 1).trans rfl
    have e2 : W.cell? ⟨z, 2, none⟩ = some (.int .i64 x.f2) := (blk_cell hzc 2).trans rfl
    have e3 : W.cell? ⟨z, 3, none⟩ = some (.int .i64 x.f3) := (blk_cell hzc 3).trans rfl
    clear hzc
    generalize Fence.wide = F0
    gi_wp2_with (first
      | (gi_at_builtin; refine wpListIn_append_own _ rfl _ _ 60 rfl w2.heap.size 65 i0 (.agg #[.int .i64 0, .int .i64 0, .int .i64 0, .int .i64 0]) 4 32 Try.underlying60 hi0 hz0 hz1 hz2 rfl (by decide) _ _ _ rfl (hown.alloc _) ⟨W.heap.size, 0, none⟩ 1 1 [.int .i64 x.f0, .int .i64 x.f1, .int .i64 x.f2, .int .i64 x.f3] rfl rfl (cells_new4 _ _ _ _ _ _) (by simp [Value.oneCell']) (by unfold maxLen; omega) (by omega) (by simp; omega) ?_; intro v' w3 hown' hg3 hnil3
         replace hg3 : (W.alloc (.cells #[.int .i64 x.f0, .int .i64 x.f1, .int .i64 x.f2, .int .i64 x.f3] 65)).grownBy w3 v.ownBlock := hg3
         have hbl : be < W.heap.size := by omega
         have ne3 : ∀ q, q < w2.heap.size → some q ≠ v.ownBlock := fun q hq e => by
           rcases PxR.own_ne hown (Or.inl hq) with h | h
           · rw [h] at e; cases e
           · exact h e.symm
         have keep3 : ∀ q, q < w2.heap.size → w3.heap[q]? = W.heap[q]? := fun q hq => (hg3.block q (by simp; omega) (ne3 q hq)).trans (Below.heap_alloc _ _ q (by omega))
         have nod3 : ∀ (b : Nat) (cs : Array Value), W.heap[b]? = some (Obj.cells cs 148 (0, 0)) → w3.heap[b]? = some (Obj.cells cs 148 (0, 0)) := fun b cs hbb => by
           have hz := blk_lt hbb
           exact ((hg3.block b (by simp; omega) (jnode_row hown hbb)).trans (Below.heap_alloc _ _ b hz)).trans hbb
         have hc3 := (keep3 be (by omega)).trans hc
         have c3 : w3.cell? ⟨be, 0, none⟩ = some v := (blk_cell hc3 0).trans rfl
         have f3 : w3.frozen? ⟨be, 0, none⟩ = false := blk_frozen hc3 0
         have hb3 : Below w.heap.size W w3 := ((Below.refl w.heap.size W).alloc (by omega) _).grown hg3 (by simp; omega) (fun q e => by
           obtain ⟨o, ho⟩ : ∃ o, (W.alloc (.cells #[.int .i64 x.f0, .int .i64 x.f1, .int .i64 x.f2, .int .i64 x.f3] 65)).heap[q]? = some o := by
             rcases (hown.alloc (.cells #[.int .i64 x.f0, .int .i64 x.f1, .int .i64 x.f2, .int .i64 x.f3] 65)).2 with ⟨rfl, _⟩ | ⟨g, cap, cur, rfl, _, hg, _⟩
             · simp [Value.ownBlock] at e
             · have : g = q := by simpa [Value.ownBlock] using e
               subst this; exact ⟨_, hg⟩
           have := (PxR.own_cells (hown.alloc _) e ho).2
           omega)
         have hk3 : KeepsOthers W w3 := (KeepsOthers.alloc W _).trans (KeepsOthers.of_grownBy hg3 (fun j o ej hj => (PxR.own_cells (hown.alloc _) ej hj).1))
         have HB3 := Lib.hid hb3
         have HK3 := Lib.hid hk3
         have KP3 := Lib.hid keep3
         have ND3 := Lib.hid nod3
         obtain ⟨g', cap', rfl⟩ : ∃ g' cap', v' = .slice (some ⟨g', 0, none⟩) (pre.length + 1) cap' := by
           rcases hown'.2 with ⟨_, h0⟩ | ⟨g', cap', _, h', _⟩
           · exact absurd h0 (by omega)
           · exact ⟨g', cap', h'⟩
         have HO3 := Lib.hid hown'
         have HC3 := Lib.hid hc3
         clear hb3 hk3 keep3 nod3 hown' hc3 ne3
         go_frame)
      | (rw [Oper.semAt_eq _ _ _ (fun c h => by cases h)]; go_simp; try go_bits))
    refine ⟨HK3.out.trans (KeepsOthers.setCell _ _ _), ⟨(Below.heap_setCell _ ⟨be, 0, none⟩ _ _ (by show _ ≠ be; omega)).trans (KP3.out _ (by omega)), (Below.heap_setCell _ ⟨be, 0, none⟩ _ _ (by show _ ≠ be; omega)).trans (KP3.out _ (by omega)), fun b cs hbb => (Below.heap_setCell _ ⟨be, 0, none⟩ _ _ (by show b ≠ be; rintro rfl; rw [hc] at hbb; injection hbb with hbb; injection hbb with _ hbb; exact absurd hbb (by decide))).trans (ND3.out b cs hbb)⟩, ((hb.trans HB3.out).setCell (p := ⟨be, 0, none⟩) hw1 _), by have := HB3.out.size; have := HK3.out.size; simp; omega, .slice (some ⟨g', 0, none⟩) (pre.length + 1) cap', by simpa using blk_set HC3.out 0 (.slice (some ⟨g', 0, none⟩) (pre.length + 1) cap'), ?_⟩
    have := HO3.out.kept (PxR.grown_set w3 ⟨be, 0, none⟩ (.slice (some ⟨g', 0, none⟩) (pre.length + 1) cap')) (PxR.own_ne HO3.out (Or.inl (show be < w2.heap.size by omega)))
    simpa [jcl] using this
  case done =>
    rintro D ys W hD ⟨hys1, hys2⟩ ⟨hb, h2, v, hc, hown⟩ hK
    have c1 : W.cell? ⟨be, 0, none⟩ = some v := (blk_cell hc 0).trans rfl
    have HB := Lib.hid hb
    have HOW := Lib.hid hown
    have HK := Lib.hid hK
    have HY1 := Lib.hid hys1
    have HY2 := Lib.hid hys2
    clear hb h2 hc hown hK hys1 hys2
    go_wp2
    refine ⟨by simp, .inl ⟨_, _, rfl, run_takeDeferred HK.out, ?_⟩⟩
    have hz := (Array.getElem?_eq_some_iff.1 HK.out).1
    have hown2 := HOW.out.kept (grownBy_putObj' W D (.deferred none)) (PxR.own_ne HOW.out (Or.inr ⟨_, HK.out, rfl⟩))
    exact ⟨_, results_tmp rfl _ _ _, v, ys, rfl, HY1.out, HY2.out, jown_R hown2 (by omega), HB.out.grown (grownBy_putObj' W D (.deferred none)) (by have := HB.out.size; omega) (fun k e => by cases e; omega)⟩
  case stop =>
    rintro D c pre W _ _ h _
    exact h.elim
def ids (L : List S65) : List Int := L.map (fun x => x.f0)
/-- A heap whose jobs, in order, are these; each has an ID of its own. -/
def HpJ (w : World) (g : Nat) (L : List S65) : Prop := HpP w g L ∧ Hg.SrtG jlt L ∧ (ids L).Nodup
theorem jlt_irr (a : S65) : jlt a a = false := by unfold jlt; exact decide_eq_false (by omega)
theorem ids_anti {L : List S65} (h : (ids L).Nodup) : Hg.Anti jlt L := by
  induction L with
  | nil => intro a ha; cases ha
  | cons x l ih =>
    unfold ids at h
    rw [List.map_cons, List.nodup_cons] at h
    intro a ha b hb h1 h2
    have e : a.f0 = b.f0 := by unfold jlt at h1 h2; have h1 := of_decide_eq_false h1; have h2 := of_decide_eq_false h2; omega
    rcases List.mem_cons.1 ha with rfl | ha'
    · rcases List.mem_cons.1 hb with rfl | hb'
      · rfl
      · have hm : b.f0 ∈ l.map (fun x => x.f0) := List.mem_map.2 ⟨b, hb', rfl⟩
        rw [← e] at hm
        exact absurd hm h.1
    · rcases List.mem_cons.1 hb with rfl | hb'
      · have hm : a.f0 ∈ l.map (fun x => x.f0) := List.mem_map.2 ⟨a, ha', rfl⟩
        rw [e] at hm
        exact absurd hm h.1
      · exact ih h.2 a ha' b hb' h1 h2
theorem ids_perm {L M : List S65} (h : L.Perm M) : (ids L).Perm (ids M) := h.map _
theorem HpJ.below {w w' : World} {g : Nat} {L : List S65} (h : HpJ w g L) (hb : Below w.heap.size w w') : HpJ w' g L := ⟨h.1.below hb, h.2⟩
theorem HpJ.lt {w : World} {g : Nat} {L : List S65} (h : HpJ w g L) : g < w.heap.size := h.1.lt
theorem HpJ.grown {w w' : World} {g : Nat} {L : List S65} {row : Option Nat} (h : HpJ w g L) (hg : w.grownBy w' row) (hne : some g ≠ row) (hr : ∀ r cs, row = some r → w.heap[r]? ≠ some (.cells cs 148 (0, 0))) : HpJ w' g L := ⟨h.1.grown hg hne hr, h.2⟩
theorem HpJ.new {w : World} {g : Nat} (h : HpP w g []) : HpJ w g [] := ⟨h, List.Pairwise.nil, List.nodup_nil⟩
/-- A block of another type is no heap. -/
theorem HpJ.ne {w : World} {g k t : Nat} {L : List S65} {cs : Array Value} (h : HpJ w g L) (hk : w.heap[k]? = some (.cells cs t (0, 0))) (ht : t ≠ 143) : k ≠ g := by
  rintro rfl
  obtain ⟨⟨_, _, h1, _⟩, _⟩ := h
  rw [hk] at h1
  injection h1 with h1
  injection h1 with _ h1
  exact ht h1
theorem putJ (g : Nat) (x : S65) (L : List S65) (w : World) (h : HpJ w g L) (hx : x.f0 ∉ ids L) (hl : L.length < 1000000) : Calls Try.prog 88 #[.pointer (some ⟨g, 0, none⟩), .agg #[.int .i64 x.f0, .int .i64 x.f1, .int .i64 x.f2, .int .i64 x.f3]] w fun e w' => e = .returned (.bool true) ∧ HpJ w' g (Hg.insG jlt x L) ∧ w.grownBy w' (some g) :=
  (put.calls g x L w h.1 hl).mono fun e w' ⟨h1, h2, h3⟩ => ⟨h1, ⟨h2.of_perm (Hg.insG_perm jlt x L).symm, Hg.insG_srt jlt_wo.asym jlt_wo.ntr h.2.1, (ids_perm (Hg.insG_perm jlt x L)).nodup_iff.2 (List.nodup_cons.2 ⟨hx, h.2.2⟩)⟩, h3⟩
theorem takeJ (g : Nat) (x : S65) (L : List S65) (w : World) (h : HpJ w g (x :: L)) (hl : L.length < 999999) : Calls Try.prog 90 #[.pointer (some ⟨g, 0, none⟩)] w fun e w' => e = .returned (.tuple #[.agg #[.int .i64 x.f0, .int .i64 x.f1, .int .i64 x.f2, .int .i64 x.f3], .bool true]) ∧ HpJ w' g L ∧ w.grownBy w' (some g) := by
  obtain ⟨y, R, h1, h2, h3⟩ := take.calls g (x :: L) w h.1 (by simp) (by simp; omega)
  obtain ⟨rfl, hp⟩ := Hg.srtG_take jlt_irr (ids_anti h.2.2) h.2.1 h1 h2
  refine h3.mono fun e w' ⟨a1, a2, a3⟩ => ⟨a1, ⟨a2.of_perm hp, (List.pairwise_cons.1 h.2.1).2, ?_⟩, a3⟩
  have := h.2.2; unfold ids at this ⊢; rw [List.map_cons, List.nodup_cons] at this; exact this.2
theorem minJ (g : Nat) (x : S65) (L : List S65) (w : World) (h : HpJ w g (x :: L)) : Calls Try.prog 89 #[.pointer (some ⟨g, 0, none⟩)] w fun e w' => e = .returned (.tuple #[.agg #[.int .i64 x.f0, .int .i64 x.f1, .int .i64 x.f2, .int .i64 x.f3], .bool true]) ∧ Below w.heap.size w w' := by
  obtain ⟨v, t, h1, h2, h3, h4⟩ := id h.1
  cases t with
  | leaf => exact absurd (List.Perm.nil_eq h4).symm (by simp)
  | node y l r =>
    obtain ⟨b, d, pl, pr, rfl, hb, _, _⟩ := h2
    obtain ⟨rfl, _⟩ := Hg.srtG_take jlt_irr (ids_anti h.2.2) h.2.1 h4 h3.1
    exact min.calls g b d pl pr y (y :: L) w h.1 (by simp) _ h1 hb
theorem changeJ (g : Nat) (x z : S65) (L : List S65) (w : World) (h : HpJ w g (x :: L)) (e0 : z.f0 = x.f0) (e2 : z.f2 = x.f2) (hl : L.length < 999999) : Calls Try.prog 91 #[.pointer (some ⟨g, 0, none⟩), .agg #[.int .i64 z.f0, .int .i64 z.f1, .int .i64 z.f2, .int .i64 z.f3]] w fun e w' => e = .returned (.bool true) ∧ HpJ w' g (z :: L) ∧ w.grownBy w' (some g) := by
  obtain ⟨y, R, h1, h2, h3⟩ := change.calls g z (x :: L) w h.1 (by simp) (by simp; omega)
  obtain ⟨rfl, hp⟩ := Hg.srtG_take jlt_irr (ids_anti h.2.2) h.2.1 h1 h2
  refine h3.mono fun e w' ⟨a1, a2, a3⟩ => ⟨a1, ⟨a2.of_perm (List.Perm.cons z hp), ?_, ?_⟩, a3⟩
  · obtain ⟨q1, q2⟩ := List.pairwise_cons.1 h.2.1
    refine List.pairwise_cons.2 ⟨fun b hb => ?_, q2⟩
    have := q1 b hb
    unfold jlt at this ⊢
    rw [e0, e2]; exact this
  · have := h.2.2; unfold ids at this ⊢; rw [List.map_cons] at this ⊢; rw [e0]; exact this
theorem listJ (g : Nat) (L : List S65) (w : World) (h : HpJ w g L) (hl : L.length < 1000000) : Calls Try.prog 99 #[.pointer (some ⟨g, 0, none⟩)] w fun e w' => ∃ v : Value, e = .returned v ∧ Kd.R k65 65 w' w.heap.size (fun _ => True) v L ∧ Below w.heap.size w w' :=
  (list.calls g L w h.1 hl).mono fun e w' ⟨v, xs, h1, h2, h3, h4, h5⟩ => ⟨v, h1, by rw [Hg.srtG_eq jlt_irr (ids_anti h.2.2) h.2.1 h3 h2.symm]; exact h4, h5⟩
/-- An executive. -/
def ExP (w : World) (x h : Nat) (L : List S65) : Prop := w.heap[x]? = some (.cells #[.pointer (some ⟨h, 0, none⟩)] 127 (0, 0)) ∧ HpJ w h L
theorem ExP.below {w w' : World} {x h : Nat} {L : List S65} (e : ExP w x h L) (hb : Below w.heap.size w w') : ExP w' x h L := ⟨blk_below e.1 hb, e.2.below hb⟩
theorem ExP.ne {w : World} {x h : Nat} {L : List S65} (e : ExP w x h L) : x ≠ h := e.2.ne e.1 (by decide)
theorem ExP.grown {w w' : World} {x h : Nat} {L : List S65} {row : Option Nat} (e : ExP w x h L) (hg : w.grownBy w' row) (h1 : some x ≠ row) (h2 : some h ≠ row) (hr : ∀ r cs, row = some r → w.heap[r]? ≠ some (.cells cs 148 (0, 0))) : ExP w' x h L := ⟨blk_grown e.1 hg h1, e.2.grown hg h2 hr⟩
theorem ExP.put {w w' : World} {x h : Nat} {L L' : List S65} (e : ExP w x h L) (hg : w.grownBy w' (some h)) (h' : HpJ w' h L') : ExP w' x h L' := ⟨blk_grown e.1 hg (fun q => e.ne (by cases q; rfl)), h'⟩
set_option maxHeartbeats 8000000 in
set_option maxRecDepth 100000 in
theorem newE.calls (w : World) : Calls Try.prog 45 #[] w fun e w' => ∃ x h, e = .returned (.pointer (some ⟨x, 0, none⟩)) ∧ w.heap.size ≤ x ∧ w.heap.size ≤ h ∧ ExP w' x h [] ∧ Below w.heap.size w w' := by
  go_enter Try.func45, Try.ntmps45
  go_wp2_with (go_at_call 85; refine (new.calls _).mono ?_; rintro e w2 ⟨g, rfl, q1, q2, q3⟩; have HQ1 := Lib.hid q1; have HQ2 := Lib.hid q2; have HQ3 := Lib.hid q3; clear q1 q2 q3)
  go_ret
  exact ⟨w2.heap.size, g, rfl, HQ3.out.size, HQ1.out, ⟨heap_alloc_new w2 _, (HpJ.new HQ2.out).below (below_alloc (Below.refl _ _) _)⟩, below_alloc HQ3.out _⟩
set_option maxHeartbeats 8000000 in
set_option maxRecDepth 100000 in
theorem pending.calls (x h : Nat) (L : List S65) (w : World) (he : ExP w x h L) (hl : L.length < 1000000) : Calls Try.prog 64 #[.pointer (some ⟨x, 0, none⟩)] w fun e w' => ∃ v : Value, e = .returned v ∧ Kd.R k65 65 w' w.heap.size (fun _ => True) v L ∧ Below w.heap.size w w' := by
  have HL := Lib.hid (listJ h L w he.2 hl)
  have c0 : w.cell? ⟨x, 0, none⟩ = some (.pointer (some ⟨h, 0, none⟩)) := (blk_cell he.1 0).trans rfl
  clear he hl
  go_enter Try.func64, Try.ntmps64
  go_wp2_with (go_at_call 99; refine HL.out.mono ?_; rintro e w2 ⟨v, rfl, q1, q2⟩; have HQ1 := Lib.hid q1; have HQ2 := Lib.hid q2; clear q1 q2)
  go_ret
  exact ⟨v, rfl, HQ1.out, HQ2.out⟩
set_option maxHeartbeats 8000000 in
set_option maxRecDepth 100000 in
theorem idle.calls (x h : Nat) (L : List S65) (w : World) (he : ExP w x h L) : Calls Try.prog 50 #[.pointer (some ⟨x, 0, none⟩)] w fun e w' => e = .returned (.bool ((L.length : Int) == 0)) ∧ w = w' := by
  have HL := Lib.hid (len.calls h L w he.2.1)
  have c0 : w.cell? ⟨x, 0, none⟩ = some (.pointer (some ⟨h, 0, none⟩)) := (blk_cell he.1 0).trans rfl
  clear he
  generalize (L.length : Int) = n at *
  go_enter Try.func50, Try.ntmps50
  go_wp2_with (go_at_call 92; refine HL.out.mono ?_; rintro e w2 ⟨rfl, rfl⟩)
  go_ret
  exact ⟨rfl, rfl⟩
def jmay (x : S65) : Bool := decide (0 < x.f3) && (decide (x.f3 ≤ 2147483648) && (decide (0 ≤ x.f1) && (decide (x.f1 ≤ 1099511627776) && (decide (x.f1 < x.f2) && decide (x.f2 ≤ 2199023255552)))))
set_option maxHeartbeats 8000000 in
set_option maxRecDepth 100000 in
theorem may.calls (x : S65) (w : World) : Calls Try.prog 87 #[.agg #[.int .i64 x.f0, .int .i64 x.f1, .int .i64 x.f2, .int .i64 x.f3]] w fun e w' => e = .returned (.bool (jmay x)) ∧ Below w.heap.size w w' := by
  by_cases h0 : 0 < x.f3
  · by_cases h1 : x.f3 ≤ 2147483648
    · by_cases h2 : 0 ≤ x.f1
      · by_cases h3 : x.f1 ≤ 1099511627776
        · by_cases h4 : x.f1 < x.f2
          · by_cases h5 : x.f2 ≤ 2199023255552
            · have HE : Hid (jmay x = true) := by unfold jmay; exact Lib.hid (by simp [h0, h1, h2, h3, h4, h5])
              go_enter Try.func87, Try.ntmps87
              go_wp2
              go_ret
              exact ⟨by rw [HE.out]; rfl, below_alloc (Below.refl _ _) _⟩
            · have HE : Hid (jmay x = false) := by unfold jmay; exact Lib.hid (by simp [h5])
              go_enter Try.func87, Try.ntmps87
              go_wp2
              go_ret
              exact ⟨by rw [HE.out]; rfl, below_alloc (Below.refl _ _) _⟩
          · have HE : Hid (jmay x = false) := by unfold jmay; exact Lib.hid (by simp [h4])
            go_enter Try.func87, Try.ntmps87
            go_wp2
            go_ret
            exact ⟨by rw [HE.out]; rfl, below_alloc (Below.refl _ _) _⟩
        · have HE : Hid (jmay x = false) := by unfold jmay; exact Lib.hid (by simp [h3])
          go_enter Try.func87, Try.ntmps87
          go_wp2
          go_ret
          exact ⟨by rw [HE.out]; rfl, below_alloc (Below.refl _ _) _⟩
      · have HE : Hid (jmay x = false) := by unfold jmay; exact Lib.hid (by simp [h2])
        go_enter Try.func87, Try.ntmps87
        go_wp2
        go_ret
        exact ⟨by rw [HE.out]; rfl, below_alloc (Below.refl _ _) _⟩
    · have HE : Hid (jmay x = false) := by unfold jmay; exact Lib.hid (by simp [h1])
      go_enter Try.func87, Try.ntmps87
      go_wp2
      go_ret
      exact ⟨by rw [HE.out]; rfl, below_alloc (Below.refl _ _) _⟩
  · have HE : Hid (jmay x = false) := by unfold jmay; exact Lib.hid (by simp [h0])
    go_enter Try.func87, Try.ntmps87
    go_wp2
    go_ret
    exact ⟨by rw [HE.out]; rfl, below_alloc (Below.refl _ _) _⟩
set_option maxHeartbeats 8000000 in
set_option maxRecDepth 100000 in
theorem has1.calls (x : S65) (bi : Nat) (id : Int) (w : World) (hb : w.heap[bi]? = some (.cells #[.int .i64 id] 3 (0, 0))) : Calls Try.prog 101 #[.agg #[.int .i64 x.f0, .int .i64 x.f1, .int .i64 x.f2, .int .i64 x.f3], .pointer (some ⟨bi, 0, none⟩)] w fun e w' => e = .returned (.bool (x.f0 == id)) ∧ Below w.heap.size w w' := by
  have hb2 := blk_alloc hb (.cells #[.int .i64 x.f0, .int .i64 x.f1, .int .i64 x.f2, .int .i64 x.f3] 65)
  have c0 : (w.alloc (.cells #[.int .i64 x.f0, .int .i64 x.f1, .int .i64 x.f2, .int .i64 x.f3] 65)).cell? ⟨bi, 0, none⟩ = some (.int .i64 id) := (blk_cell hb2 0).trans rfl
  have hlt := blk_lt hb
  clear hb hb2
  go_enter Try.func101, Try.ntmps101
  go_wp2
  go_ret
  exact ⟨rfl, below_alloc (Below.refl _ _) _⟩
def hasAt (id : Int) (l : List S65) : Int := match l.findIdx? (fun t => t.f0 == id) with | some i => (i : Int) | none => -1
theorem hasAt_some {id : Int} {l : List S65} {k : Nat} (hk : k < l.length) (hb : ∀ j, j < k → ((rd_T65 l j).f0 == id) = false) (h : ((rd_T65 l k).f0 == id) = true) : hasAt id l = k := by
  have e : l.findIdx? (fun t => t.f0 == id) = some k := by
    rw [List.findIdx?_eq_some_iff_getElem]
    refine ⟨hk, by simpa [rd_T65, hk] using h, fun j hj => ?_⟩
    have := hb j hj
    simpa [rd_T65, Nat.lt_trans hj hk] using this
  unfold hasAt; rw [e]
theorem hasAt_none {id : Int} {l : List S65} (hb : ∀ j, j < l.length → ((rd_T65 l j).f0 == id) = false) : hasAt id l = -1 := by
  have e : l.findIdx? (fun t => t.f0 == id) = none := by
    rw [List.findIdx?_eq_none_iff]
    intro x hx
    obtain ⟨j, hj, rfl⟩ := List.getElem_of_mem hx
    have := hb j hj
    simpa [rd_T65, hj] using this
  unfold hasAt; rw [e]
def hasB (id : Int) (l : List S65) : Bool := decide (id ∈ ids l)
theorem hasAt_B (id : Int) (l : List S65) : decide (0 ≤ hasAt id l) = hasB id l := by
  unfold hasAt hasB ids
  cases h : l.findIdx? (fun t => t.f0 == id) with
  | none =>
    rw [List.findIdx?_eq_none_iff] at h
    have : id ∉ l.map (fun x => x.f0) := fun hm => by
      obtain ⟨x, hx, e⟩ := List.mem_map.1 hm
      have := h x hx
      rw [e] at this; simp at this
    simp [this]
  | some i =>
    rw [List.findIdx?_eq_some_iff_getElem] at h
    obtain ⟨hi, h1, _⟩ := h
    have : id ∈ l.map (fun x => x.f0) := List.mem_map.2 ⟨l[i], List.getElem_mem hi, by simpa using h1⟩
    simp [this]
set_option maxHeartbeats 8000000 in
set_option maxRecDepth 100000 in
theorem jobIndex.calls (A0 : Option Addr) (c0 : Nat) (l0 : List S65) (bi : Nat) (id : Int) (w : World) (hr0 : Kd.C k65 w A0 l0.length l0) (hc0 : l0.length ≤ c0) (hb : w.heap[bi]? = some (.cells #[.int .i64 id] 3 (0, 0))) :
    Calls Try.prog 113 #[.slice A0 l0.length c0, .func (.func 101) #[] #[.pointer (some ⟨bi, 0, none⟩)]] w fun e w' => e = .returned (.int .i64 (hasAt id l0)) ∧ Below w.heap.size w w' := by
  have hu := Try.underlying65
  have hmax : l0.length ≤ 9223372036854775807 := Kd.C_max hr0
  have HR0 := Aside0.mk hr0
  have HC0 := Aside0.mk hc0
  have HBI := Aside0.mk hb
  clear hr0 hc0 hb
  go_enter Try.func113, Try.ntmps113
  go_wp2
  go_loopw [5, 8] (fun _ v8 wr => ∃ k : Nat, k ≤ l0.length ∧ v8 = .int .i64 k ∧ Aside0 (∀ j, j < k → ((rd_T65 l0 j).f0 == id) = false) ∧ Aside0 (Below w.heap.size w wr)) (fun _ v8 _ => l0.length - (intOf v8).toNat)
  case atStart => exact ⟨0, Nat.zero_le _, rfl, ⟨fun j hj => absurd hj (Nat.not_lt_zero _)⟩, ⟨Below.refl _ _⟩⟩
  case round =>
    obtain ⟨k, hk, rfl, HP, HB⟩ := hrel
    by_cases hlt : k < l0.length
    · have p0 : (0 : Int) ≤ (k : Int) := by omega
      have q0 : (k : Int) < (l0.length : Int) := by omega
      obtain ⟨ad, e0, hx0, hx1, hx2, hx3⟩ := at_T65 HR0.out k p0 q0
      cases e0
      replace hx0 := (HB.out.cell (World.block_lt_of_cell? w _ hx0)).trans hx0
      replace hx1 := (HB.out.cell (World.block_lt_of_cell? w _ hx1)).trans hx1
      replace hx2 := (HB.out.cell (World.block_lt_of_cell? w _ hx2)).trans hx2
      replace hx3 := (HB.out.cell (World.block_lt_of_cell? w _ hx3)).trans hx3
      simp only [Int.toNat_natCast] at hx0 hx1 hx2 hx3
      cases hv : ((rd_T65 l0 k).f0 == id) with
      | false =>
        have HC := Lib.hid (has1.calls (rd_T65 l0 k) bi id wr (blk_below HBI.out HB.out))
        rw [hv] at HC
        have HT := Lib.hid hv
        clear hv
        go_wp2_with (go_at_call 101; refine HC.out.mono ?_; rintro e w1 ⟨rfl, hb1⟩; have HB1 := Aside0.mk (below_step HB.out hb1); clear hb1)
        go_roundw
        case rel => exact ⟨k + 1, by omega, by go_num, ⟨fun j hj => by rcases Nat.lt_succ_iff_lt_or_eq.1 hj with h | rfl; exact HP.out j h; exact HT.out⟩, HB1⟩
        case measure => simp [intOf]; omega
      | true =>
        have HC := Lib.hid (has1.calls (rd_T65 l0 k) bi id wr (blk_below HBI.out HB.out))
        rw [hv] at HC
        have HT := Lib.hid hv
        clear hv
        go_wp2_with (go_at_call 101; refine HC.out.mono ?_; rintro e w1 ⟨rfl, hb1⟩; have HB1 := Aside0.mk (below_step HB.out hb1); clear hb1)
        go_ret
        exact ⟨by rw [hasAt_some hlt HP.out HT.out]; rfl, HB1.out⟩
    · go_wp2
      go_ret
      exact ⟨by rw [hasAt_none (fun j hj => HP.out j (by omega))]; rfl, HB.out⟩
set_option maxHeartbeats 8000000 in
set_option maxRecDepth 100000 in
theorem jobContains.calls (A0 : Option Addr) (c0 : Nat) (l0 : List S65) (bi : Nat) (id : Int) (w : World) (hr0 : Kd.C k65 w A0 l0.length l0) (hc0 : l0.length ≤ c0) (hb : w.heap[bi]? = some (.cells #[.int .i64 id] 3 (0, 0))) :
    Calls Try.prog 100 #[.slice A0 l0.length c0, .func (.func 101) #[] #[.pointer (some ⟨bi, 0, none⟩)]] w fun e w' => e = .returned (.bool (hasB id l0)) ∧ Below w.heap.size w w' := by
  have HC := Lib.hid (jobIndex.calls A0 c0 l0 bi id w hr0 hc0 hb)
  clear hr0 hc0 hb
  go_enter Try.func100, Try.ntmps100
  go_wp2_with (go_at_call 113; refine HC.out.mono ?_; rintro e w1 ⟨rfl, hb1⟩; have HB1 := Aside0.mk hb1; clear hb1)
  go_ret
  exact ⟨by rw [← hasAt_B]; rfl, HB1.out⟩
set_option maxHeartbeats 8000000 in
set_option maxRecDepth 100000 in
theorem has.calls (x h : Nat) (id : Int) (L : List S65) (w : World) (he : ExP w x h L) (hl : L.length < 1000000) : Calls Try.prog 67 #[.pointer (some ⟨x, 0, none⟩), .int .i64 id] w fun e w' => e = .returned (.bool (hasB id L)) ∧ Below w.heap.size w w' := by
  have hba := below_alloc (Below.refl w.heap.size w) (.cells #[.int .i64 id] 3)
  have HP := Lib.hid (pending.calls x h L (w.alloc (.cells #[.int .i64 id] 3)) (he.below hba) hl)
  have HBA := Lib.hid hba
  have HN := Lib.hid (heap_alloc_new w (.cells #[.int .i64 id] 3))
  clear he hba hl
  go_enter Try.func67, Try.ntmps67
  go_wp2_with (first
    | (go_at_call 64; refine HP.out.mono ?_; rintro e w2 ⟨v, rfl, q1, q2⟩; obtain ⟨A, c, rfl, hc, hC⟩ := Kd.R_reads q1; have HC := Lib.hid hC; have HCL := Lib.hid hc; have HQ2 := Lib.hid q2; clear q1 q2 hc hC)
    | (go_at_call 100; refine (jobContains.calls A c L _ id _ HC.out HCL.out (blk_below HN.out HQ2.out)).mono ?_; rintro e w3 ⟨rfl, q3⟩; have HQ3 := Lib.hid q3; clear q3))
  go_ret
  exact ⟨rfl, below_step (below_step HBA.out HQ2.out) HQ3.out⟩
def addE.T7 : Bool × List (List Nat × List Nat) := (true, [([], []), ([0], [0]), ([1], [1]), ([2], [2]), ([], []), ([3, 4], [3, 4])])
def addE.B7 : List Nat := [0, 1, 3, 7, 0, 31]
theorem addE.tab7 : rtab .any (opsOf Try.f47 7) = addE.T7 := by kernel_rfl
theorem addE.bits7 : waitsOk addE.T7.2 addE.B7 = true := by kernel_rfl
def runE.T8 : Bool × List (List Nat × List Nat) := (true, [([], []), ([0], [0]), ([1], [1]), ([2], [2]), ([], []), ([3, 4], [3, 4])])
def runE.B8 : List Nat := [0, 1, 3, 7, 0, 31]
theorem runE.tab8 : rtab .any (opsOf Try.f49 8) = runE.T8 := by kernel_rfl
theorem runE.bits8 : waitsOk runE.T8.2 runE.B8 = true := by kernel_rfl
set_option maxHeartbeats 8000000 in
set_option maxRecDepth 100000 in
theorem addE_bad.calls (x h : Nat) (y : S65) (L : List S65) (w : World) (he : ExP w x h L) (hm : jmay y = false) : Calls Try.prog 47 #[.pointer (some ⟨x, 0, none⟩), .agg #[.int .i64 y.f0, .int .i64 y.f1, .int .i64 y.f2, .int .i64 y.f3]] w fun e w' => e = .returned (.int .i64 1) ∧ Below w.heap.size w w' := by
  have hba := below_alloc (Below.refl w.heap.size w) (.cells #[.int .i64 y.f0, .int .i64 y.f1, .int .i64 y.f2, .int .i64 y.f3] 65)
  have HM := Lib.hid (may.calls y (w.alloc (.cells #[.int .i64 y.f0, .int .i64 y.f1, .int .i64 y.f2, .int .i64 y.f3] 65)))
  rw [hm] at HM
  have HBA := Lib.hid hba
  clear he hm hba
  go_enter Try.func47, Try.ntmps47
  go_wp2_with (go_at_call 87; refine HM.out.mono ?_; rintro e w2 ⟨rfl, q1⟩; have HQ1 := Lib.hid q1; clear q1)
  go_ret
  exact ⟨rfl, below_step HBA.out HQ1.out⟩
set_option maxHeartbeats 8000000 in
set_option maxRecDepth 100000 in
theorem addE_there.calls (x h : Nat) (y : S65) (L : List S65) (w : World) (he : ExP w x h L) (hm : jmay y = true) (hi : y.f0 ∈ ids L) (hl : L.length < 1000000) : Calls Try.prog 47 #[.pointer (some ⟨x, 0, none⟩), .agg #[.int .i64 y.f0, .int .i64 y.f1, .int .i64 y.f2, .int .i64 y.f3]] w fun e w' => e = .returned (.int .i64 14) ∧ Below w.heap.size w w' := by
  have hba := below_alloc (Below.refl w.heap.size w) (.cells #[.int .i64 y.f0, .int .i64 y.f1, .int .i64 y.f2, .int .i64 y.f3] 65)
  have HM := Lib.hid (may.calls y (w.alloc (.cells #[.int .i64 y.f0, .int .i64 y.f1, .int .i64 y.f2, .int .i64 y.f3] 65)))
  rw [hm] at HM
  have HBA := Lib.hid hba
  have HJ0 := Lib.hid (heap_alloc_new w (.cells #[.int .i64 y.f0, .int .i64 y.f1, .int .i64 y.f2, .int .i64 y.f3] 65))
  have hb : hasB y.f0 L = true := decide_eq_true hi
  have HH := Lib.hid (fun (W : World) (hb2 : Below w.heap.size w W) => hb ▸ has.calls x h y.f0 L W (he.below hb2) hl)
  clear he hm hba hb hi hl
  go_enter Try.func47, Try.ntmps47
  go_wp2_with (first
    | (go_at_call 87; refine HM.out.mono ?_; rintro e w2 ⟨rfl, q1⟩; have HQ1 := Lib.hid (below_step HBA.out q1); have hj := blk_below HJ0.out q1; have j0 := (blk_cell hj 0).trans rfl; clear q1 hj)
    | (go_at_call 67; refine (HH.out _ HQ1.out).mono ?_; rintro e w3 ⟨rfl, q2⟩; have HQ2 := Lib.hid (below_step HQ1.out q2); clear q2))
  go_ret
  exact ⟨rfl, HQ2.out⟩
set_option maxHeartbeats 8000000 in
set_option maxRecDepth 100000 in
theorem addE.calls (x h : Nat) (y : S65) (L : List S65) (w : World) (he : ExP w x h L) (hm : jmay y = true) (hi : y.f0 ∉ ids L) (hl : L.length < 1000000) : Calls Try.prog 47 #[.pointer (some ⟨x, 0, none⟩), .agg #[.int .i64 y.f0, .int .i64 y.f1, .int .i64 y.f2, .int .i64 y.f3]] w fun e w' => e = .returned (.int .i64 0) ∧ ExP w' x h (Hg.insG jlt y L) ∧ w.grownBy w' (some h) := by
  have hba := below_alloc (Below.refl w.heap.size w) (.cells #[.int .i64 y.f0, .int .i64 y.f1, .int .i64 y.f2, .int .i64 y.f3] 65)
  have HM := Lib.hid (may.calls y (w.alloc (.cells #[.int .i64 y.f0, .int .i64 y.f1, .int .i64 y.f2, .int .i64 y.f3] 65)))
  rw [hm] at HM
  have HBA := Lib.hid hba
  have HJ0 := Lib.hid (heap_alloc_new w (.cells #[.int .i64 y.f0, .int .i64 y.f1, .int .i64 y.f2, .int .i64 y.f3] 65))
  have hb : hasB y.f0 L = false := decide_eq_false hi
  have HH := Lib.hid (fun (W : World) (hb2 : Below w.heap.size w W) => hb ▸ has.calls x h y.f0 L W (he.below hb2) hl)
  have HE0 := Lib.hid he
  have HNI := Lib.hid hi
  have HLL := Lib.hid hl
  have HNE := Lib.hid (show w.heap.size ≠ h by have := he.2.lt; omega)
  clear he hm hba hb hi hl
  go_enter Try.func47, Try.ntmps47
  go_wp2_with (first
    | (go_at_call 87; refine HM.out.mono ?_; rintro e w2 ⟨rfl, q1⟩; have HQ1 := Lib.hid (below_step HBA.out q1); have HJ1 := Lib.hid (blk_below HJ0.out q1); have j0 := (blk_cell HJ1.out 0).trans rfl; clear q1)
    | (go_at_call 67; refine (HH.out _ HQ1.out).mono ?_; rintro e w3 ⟨rfl, q2⟩; have HQ2 := Lib.hid (below_step HQ1.out q2); have HJ2 := Lib.hid (blk_below HJ1.out q2); have x0 : w3.cell? ⟨x, 0, none⟩ = some (.pointer (some ⟨h, 0, none⟩)) := (blk_cell (blk_below HE0.out.1 HQ2.out) 0).trans rfl; clear q2))
  clear x0 j0
  obtain ⟨W, hW⟩ : ∃ W, w3 = W := ⟨_, rfl⟩
  subst hW
  have HE := Lib.hid ((HE0.out.below HQ2.out).below (below_drew (Below.refl _ _)))
  have HJ := Lib.hid (blk_drew HJ2.out)
  have HB := Lib.hid (below_drew1 HQ2.out)
  clear HE0 HJ0 HJ1 HJ2 HQ1 HQ2 HH HM HBA
  obtain ⟨a0, ha0⟩ : ∃ n, w.heap.size = n := ⟨_, rfl⟩
  rw [ha0] at HJ HNE ⊢
  clear ha0
  refine start_ (n := 6) (S := fun w' => w'.cell? ⟨x, 0, none⟩ = some (.pointer (some ⟨h, 0, none⟩)) ∧ w'.cell? ⟨a0, 0, none⟩ = some (.int .i64 y.f0) ∧ w'.cell? ⟨a0, 1, none⟩ = some (.int .i64 y.f1) ∧ w'.cell? ⟨a0, 2, none⟩ = some (.int .i64 y.f2) ∧ w'.cell? ⟨a0, 3, none⟩ = some (.int .i64 y.f3)) (ds := []) #[false, false, false, false, false, false] (by kernel_rfl) rfl rfl ⟨(blk_cell HE.out.1 0).trans rfl, (blk_cell HJ.out 0).trans rfl, (blk_cell HJ.out 1).trans rfl, (blk_cell HJ.out 2).trans rfl, (blk_cell HJ.out 3).trans rfl⟩ (fun hHeld => ?_); refine with_tabW addE.tab7 addE.bits7 (fun HT_ HW_ => ?_)
  generalize w3.drew = w5 at HE HJ HB hHeld ⊢
  refine pure_ (i := 0) (N := some 27) (v := ?_) (a' := ?_) #[true, false, false, false, false, false] rfl rfl (any_of HT_.out (by kernel_rfl)) (fun _ _ _ h => h) (Or.inl ⟨by rfl, ?_⟩) ?_ ?_
  rotate_left
  · intro w'
    go_simp
    with_reducible rfl
  rotate_left
  · simp only [Act.put, List.setIfInBounds_toArray, List.set_cons_zero, List.set_cons_succ, i64_w, i32_w]
    rfl
  refine pure_ (i := 1) (N := some 28) (v := ?_) (a' := ?_) #[true, true, false, false, false, false] rfl rfl (any_of HT_.out (by kernel_rfl)) (fun _ _ _ h => h) (Or.inl ⟨by rfl, ?_⟩) ?_ ?_
  rotate_left
  · intro w'
    go_simp
    with_reducible rfl
  rotate_left
  · simp only [Act.put, List.setIfInBounds_toArray, List.set_cons_zero, List.set_cons_succ, i64_w, i32_w]
    rfl
  refine pure_ (i := 2) (N := some 29) (v := ?_) (a' := ?_) #[true, true, true, false, false, false] rfl rfl (any_of HT_.out (by kernel_rfl)) (fun _ _ _ h => h) (Or.inl ⟨by rfl, ?_⟩) ?_ ?_
  rotate_left
  · intro w'
    go_simp
    with_reducible rfl
  rotate_left
  · simp only [Act.put, List.setIfInBounds_toArray, List.set_cons_zero, List.set_cons_succ, i64_w, i32_w]
    rfl
  refine take_ (i := 3) (N := some 30) (v := ?_) (a' := ?_) #[true, true, true, true, false, false] rfl rfl (take_ofW HT_.out HW_.out (by kernel_rfl)) (fun _ _ _ h => h) (Or.inl ⟨by rfl, ?_⟩) hHeld ?_ ?_
  rotate_left
  · rintro w' ⟨s0, s1, s2, s3, s4⟩
    go_simp
    with_reducible rfl
  rotate_left
  · simp only [Act.put, List.setIfInBounds_toArray, List.set_cons_zero, List.set_cons_succ, i64_w, i32_w]
    rfl
  refine take_ (i := 4) (N := some 31) (v := ?_) (a' := ?_) #[true, true, true, true, true, false] rfl rfl (take_ofW HT_.out HW_.out (by kernel_rfl)) (fun _ _ _ h => h) (Or.inl ⟨by rfl, ?_⟩) hHeld ?_ ?_
  rotate_left
  · rintro w' ⟨s0, s1, s2, s3, s4⟩
    go_simp
    with_reducible rfl
  rotate_left
  · simp only [Act.put, List.setIfInBounds_toArray, List.set_cons_zero, List.set_cons_succ, i64_w, i32_w]
    rfl
  refine one_ (i := 5) (N := some 32) #[true, true, true, true, true, true] rfl rfl (one_of HT_.out (by kernel_rfl)) (by decide) (fun K hK => ?_)
  refine goes_ Try.func88 (by kernel_rfl) rfl #[.pointer (some ⟨h, 0, none⟩), .agg #[.int .i64 y.f0, .int .i64 y.f1, .int .i64 y.f2, .int .i64 y.f3]] (by rfl) rfl rfl (by (try simp only [List.map_toArray, List.map_cons, List.map_nil]); first | done | rfl) ?_
  refine (putJ h y L w5 HE.out.2 HNI.out HLL.out).mono ?_
  rintro e w6 ⟨rfl, q2, q3⟩
  refine ⟨_, rfl, ?_⟩
  have HQ2 := Lib.hid (HE.out.put q3 q2)
  have HQ3 := Lib.hid ((grown_of_below HB.out (some h)).trans q3)
  refine hK.out _ _ ⟨(blk_cell (blk_grown HE.out.1 q3 (fun q => HE.out.ne (by cases q; rfl))) 0).trans rfl, (blk_cell (blk_grown HJ.out q3 (fun q => HNE.out (by cases q; rfl))) 0).trans rfl, (blk_cell (blk_grown HJ.out q3 (fun q => HNE.out (by cases q; rfl))) 1).trans rfl, (blk_cell (blk_grown HJ.out q3 (fun q => HNE.out (by cases q; rfl))) 2).trans rfl, (blk_cell (blk_grown HJ.out q3 (fun q => HNE.out (by cases q; rfl))) 3).trans rfl⟩ (fun hHeld => ?_)
  clear hK K
  refine norm_ (a' := ?_) ?_ ?_
  rotate_left
  · show Act.put _ (some 32) _ = _
    simp only [Act.put, List.setIfInBounds_toArray, List.set_cons_zero, List.set_cons_succ, i64_w, i32_w]
    rfl
  clear q2 q3
  refine done_ (done_of HT_.out (by kernel_rfl)) ?_
  go_wp2
  go_ret
  exact ⟨rfl, HQ2.out, HQ3.out⟩
/-- What a slot told is laid into its own block. -/
def put2 (W : World) (z : Nat) (a : Int) (b : Bool) : World := (W.setCell ⟨z, 0, none⟩ (.int .i64 a)).setCell ⟨z, 1, none⟩ (.bool b)
theorem put2_own {W : World} {z : Nat} {u v : Value} (a : Int) (b : Bool) (h : W.heap[z]? = some (.cells #[u, v] 73 (0, 0))) : (put2 W z a b).heap[z]? = some (.cells #[.int .i64 a, .bool b] 73 (0, 0)) :=
  blk_put (cs := #[.int .i64 a, v]) (blk_put h 0 _ rfl) 1 _ rfl
theorem put2_grown {w W : World} {row : Option Nat} (h : w.grownBy W row) {z : Nat} (hz : w.heap.size ≤ z) (a : Int) (b : Bool) : w.grownBy (put2 W z a b) row := grown_fresh (grown_fresh h hz _ _) hz _ _
theorem put2_below {B : Nat} {w W : World} (h : Below B w W) {z : Nat} (hz : B ≤ z) (a : Int) (b : Bool) : Below B w (put2 W z a b) := ((h.setCell (p := ⟨z, 0, none⟩) hz _).setCell (p := ⟨z, 1, none⟩) hz _)
theorem put2_self {W : World} (z : Nat) (a : Int) (b : Bool) : W.grownBy (put2 W z a b) (some z) := (PxR.grown_set W ⟨z, 0, none⟩ _).trans (PxR.grown_set _ ⟨z, 1, none⟩ _)
theorem ExP.put2 {W : World} {x h z : Nat} {L : List S65} {u v : Value} (e : ExP W x h L) (hz : W.heap[z]? = some (.cells #[u, v] 73 (0, 0))) (a : Int) (b : Bool) : ExP (put2 W z a b) x h L :=
  e.grown (put2_self z a b) (fun q => by cases q; have := e.1; rw [hz] at this; injection this with this; injection this with _ this; exact absurd this (by decide)) (fun q => by cases q; exact e.2.ne hz (by decide) rfl) (fun r cs q k => by cases q; rw [hz] at k; injection k with k; injection k with _ k; exact absurd k (by decide))
set_option maxHeartbeats 8000000 in
set_option maxRecDepth 100000 in
theorem runE_none.calls (x h : Nat) (w : World) (he : ExP w x h []) : Calls Try.prog 49 #[.pointer (some ⟨x, 0, none⟩)] w fun e w' => e = .returned (.agg #[.int .i64 (-1), .bool false]) ∧ Below w.heap.size w w' := by
  have hba := below_alloc (Below.refl w.heap.size w) (.cells #[.int .i64 0, .bool false] 73)
  have HI := Lib.hid (idle.calls x h [] (w.alloc (.cells #[.int .i64 0, .bool false] 73)) (he.below hba))
  clear he hba
  go_enter Try.func49, Try.ntmps49
  go_wp2_with (go_at_call 50; refine HI.out.mono ?_; rintro e w2 ⟨rfl, rfl⟩)
  exact bodyPost_ret (v := .agg #[.int .i64 (-1), .bool false]) (by simp [results, Try.results49, go_sem]) rfl ⟨rfl, below_alloc (Below.refl _ _) _⟩
open Hm in
set_option maxHeartbeats 8000000 in
set_option maxRecDepth 100000 in
theorem runE_done.calls (x h : Nat) (y : S65) (R : List S65) (w : World) (he : ExP w x h (y :: R)) (h1 : y.f3 = 1) (hl : R.length < 900000) : Calls Try.prog 49 #[.pointer (some ⟨x, 0, none⟩)] w fun e w' => e = .returned (.agg #[.int .i64 y.f0, .bool true]) ∧ ExP w' x h R ∧ w.grownBy w' (some h) := by
  have hba := below_alloc (Below.refl w.heap.size w) (.cells #[.int .i64 0, .bool false] 73)
  have hz : (((y :: R).length : Int) == 0) = false := by rw [beq_eq_false_iff_ne]; simp; omega
  have HI := Lib.hid (idle.calls x h (y :: R) (w.alloc (.cells #[.int .i64 0, .bool false] 73)) (he.below hba))
  rw [hz] at HI
  have HE0 := Lib.hid (he.below hba)
  have HM := Lib.hid (minJ h y R (w.alloc (.cells #[.int .i64 0, .bool false] 73)) (he.below hba).2)
  have HT := Lib.hid (fun (W : World) (k : HpJ W h (y :: R)) => takeJ h y R W k (by omega))
  have c0 : (w.alloc (.cells #[.int .i64 0, .bool false] 73)).cell? ⟨x, 0, none⟩ = some (.pointer (some ⟨h, 0, none⟩)) := (blk_cell (he.below hba).1 0).trans rfl
  have HBA := Lib.hid hba
  have HZ0 := Lib.hid (heap_alloc_new w (.cells #[.int .i64 0, .bool false] 73))
  have HHW := Lib.hid (he.2.lt)
  obtain ⟨y0, y1, y2, y3⟩ := y
  simp only at h1
  subst h1
  clear he hba hz hl
  go_enter Try.func49, Try.ntmps49
  go_wp2_with (first
    | (go_at_call 50; refine HI.out.mono ?_; rintro e w2 ⟨rfl, rfl⟩)
    | (go_at_call 89; refine HM.out.mono ?_; rintro e w2 ⟨rfl, q1⟩; have HQ1 := Lib.hid q1; have HE1 := Lib.hid ((HE0.out.below q1).below (below_alloc (Below.refl _ _) (.cells #[.int .i64 y0, .int .i64 y1, .int .i64 y2, .int .i64 0] 65))); have c1 := (blk_cell HE1.out.1 0).trans rfl; have HZ1 := Lib.hid (blk_alloc (blk_below HZ0.out q1) (.cells #[.int .i64 y0, .int .i64 y1, .int .i64 y2, .int .i64 0] 65)); have HB1 := Lib.hid (below_alloc (below_step HBA.out q1) (.cells #[.int .i64 y0, .int .i64 y1, .int .i64 y2, .int .i64 0] 65)); clear q1)
    | (go_at_call 90; go_loud (refine (HT.out _ HE1.out.2).mono ?_; rintro e w3 ⟨rfl, q2, q3⟩; have HJ3 := Lib.hid (blk_grown (heap_alloc_new w2 (.cells #[.int .i64 y0, .int .i64 y1, .int .i64 y2, .int .i64 0] 65)) q3 (fun q => by have a := HHW.out; have b := HQ1.out.size; simp at b; have e := Option.some.inj q; omega)); have j0 := (blk_cell HJ3.out 0).trans rfl; have HZ3 := Lib.hid (blk_grown HZ1.out q3 (fun q => by have a := HHW.out; have e := Option.some.inj q; omega)); have z0 := (blk_cell HZ3.out 0).trans rfl; have z1 := (blk_cell HZ3.out 1).trans rfl; have f0 := blk_frozen HZ3.out 0; have f1 := blk_frozen HZ3.out 1; have HE3 := Lib.hid (HE1.out.put q3 q2); have HG3 := Lib.hid ((grown_of_below HB1.out (some h)).trans q3); clear q2 q3)))
  obtain ⟨WW, hWW⟩ : ∃ WW, put2 w3 w.heap.size y0 true = WW := ⟨_, rfl⟩
  have hzz := put2_own y0 true HZ3.out
  have hgr := put2_grown HG3.out (Nat.le_refl _) y0 true
  have hex := HE3.out.put2 HZ3.out y0 true
  rw [hWW] at hzz hgr hex
  unfold put2 at hWW
  rw [hWW]
  clear hWW z0 z1 f0 f1 j0 c1 c0
  have e0 : WW.cell? ⟨w.heap.size, 0, none⟩ = some (.int .i64 y0) := (blk_cell hzz 0).trans rfl
  have e1 : WW.cell? ⟨w.heap.size, 1, none⟩ = some (.bool true) := (blk_cell hzz 1).trans rfl
  exact bodyPost_ret (v := .agg #[.int .i64 y0, .bool true]) (by simp [results, Try.results49, go_sem, e0, e1]) rfl ⟨rfl, hex, hgr⟩
open Hm in
set_option maxHeartbeats 8000000 in
set_option maxRecDepth 100000 in
theorem runE_more.calls (x h : Nat) (y : S65) (R : List S65) (w : World) (he : ExP w x h (y :: R)) (h1 : 1 < y.f3) (h2 : y.f3 ≤ 2147483648) (hl : R.length < 900000) : Calls Try.prog 49 #[.pointer (some ⟨x, 0, none⟩)] w fun e w' => e = .returned (.agg #[.int .i64 y.f0, .bool false]) ∧ ExP w' x h (⟨y.f0, y.f1, y.f2, y.f3 - 1⟩ :: R) ∧ w.grownBy w' (some h) := by
  have hba := below_alloc (Below.refl w.heap.size w) (.cells #[.int .i64 0, .bool false] 73)
  have hz : (((y :: R).length : Int) == 0) = false := by rw [beq_eq_false_iff_ne]; simp; omega
  have HI := Lib.hid (idle.calls x h (y :: R) (w.alloc (.cells #[.int .i64 0, .bool false] 73)) (he.below hba))
  rw [hz] at HI
  have HE0 := Lib.hid (he.below hba)
  have HM := Lib.hid (minJ h y R (w.alloc (.cells #[.int .i64 0, .bool false] 73)) (he.below hba).2)
  have HLL := Lib.hid (show R.length < 999999 by omega)
  have c0 : (w.alloc (.cells #[.int .i64 0, .bool false] 73)).cell? ⟨x, 0, none⟩ = some (.pointer (some ⟨h, 0, none⟩)) := (blk_cell (he.below hba).1 0).trans rfl
  have HBA := Lib.hid hba
  have HZ0 := Lib.hid (heap_alloc_new w (.cells #[.int .i64 0, .bool false] 73))
  have HHW := Lib.hid (he.2.lt)
  have hd : ((y.f3 - 1 : Int) == 0) = false := by rw [beq_eq_false_iff_ne]; omega
  clear he hba hz hl
  go_enter Try.func49, Try.ntmps49
  go_wp2_with (first
    | (go_at_call 50; refine HI.out.mono ?_; rintro e w2 ⟨rfl, rfl⟩)
    | (go_at_call 89; refine HM.out.mono ?_; rintro e w2 ⟨rfl, q1⟩; have HQ1 := Lib.hid q1; have HE1 := Lib.hid ((HE0.out.below q1).below (below_alloc (Below.refl _ _) (.cells #[.int .i64 y.f0, .int .i64 y.f1, .int .i64 y.f2, .int .i64 (y.f3 - 1)] 65))); have c1 := (blk_cell HE1.out.1 0).trans rfl; have HZ1 := Lib.hid (blk_alloc (blk_below HZ0.out q1) (.cells #[.int .i64 y.f0, .int .i64 y.f1, .int .i64 y.f2, .int .i64 (y.f3 - 1)] 65)); have HB1 := Lib.hid (below_alloc (below_step HBA.out q1) (.cells #[.int .i64 y.f0, .int .i64 y.f1, .int .i64 y.f2, .int .i64 (y.f3 - 1)] 65)); clear q1))
  obtain ⟨W, hW⟩ : ∃ W, w2.alloc (.cells #[.int .i64 y.f0, .int .i64 y.f1, .int .i64 y.f2, .int .i64 (y.f3 - 1)] 65) = W := ⟨_, rfl⟩
  have hj := heap_alloc_new w2 (.cells #[.int .i64 y.f0, .int .i64 y.f1, .int .i64 y.f2, .int .i64 (y.f3 - 1)] 65)
  have HNE := Lib.hid (show w2.heap.size ≠ h by have := HHW.out; have := HQ1.out.size; simp at this; omega)
  have HNZ := Lib.hid (show w.heap.size ≠ h by have := HHW.out; omega)
  have HZL := Lib.hid (show w.heap.size < w2.heap.size by have := HQ1.out.size; simp at this; omega)
  clear c0 c1
  rw [hW] at HE1 HZ1 HB1 hj ⊢
  clear hW
  have HE := Lib.hid (HE1.out.below (below_drew (Below.refl _ _)))
  have HJ := Lib.hid (blk_drew hj)
  have HB := Lib.hid (below_drew1 HB1.out)
  have HZ := Lib.hid (blk_drew HZ1.out)
  clear hj HE1 HB1 HZ1
  obtain ⟨a0, ha0⟩ : ∃ n, w2.heap.size = n := ⟨_, rfl⟩
  rw [ha0] at HJ HNE HZL ⊢
  clear ha0
  obtain ⟨zz, hzz0⟩ : ∃ n, w.heap.size = n := ⟨_, rfl⟩
  have HZB := Lib.hid (show w.heap.size ≤ zz by omega)
  rw [hzz0] at HZ HZL HNZ ⊢
  clear hzz0
  refine start_ (n := 6) (S := fun w' => w'.cell? ⟨x, 0, none⟩ = some (.pointer (some ⟨h, 0, none⟩)) ∧ w'.cell? ⟨a0, 0, none⟩ = some (.int .i64 y.f0) ∧ w'.cell? ⟨a0, 1, none⟩ = some (.int .i64 y.f1) ∧ w'.cell? ⟨a0, 2, none⟩ = some (.int .i64 y.f2) ∧ w'.cell? ⟨a0, 3, none⟩ = some (.int .i64 (y.f3 - 1))) (ds := []) #[false, false, false, false, false, false] (by kernel_rfl) rfl rfl ⟨(blk_cell HE.out.1 0).trans rfl, (blk_cell HJ.out 0).trans rfl, (blk_cell HJ.out 1).trans rfl, (blk_cell HJ.out 2).trans rfl, (blk_cell HJ.out 3).trans rfl⟩ (fun hHeld => ?_); refine with_tabW runE.tab8 runE.bits8 (fun HT_ HW_ => ?_)
  generalize W.drew = w5 at HE HJ HB HZ hHeld ⊢
  refine pure_ (i := 0) (N := some 31) (v := ?_) (a' := ?_) #[true, false, false, false, false, false] rfl rfl (any_of HT_.out (by kernel_rfl)) (fun _ _ _ h => h) (Or.inl ⟨by rfl, ?_⟩) ?_ ?_
  rotate_left
  · intro w'
    go_simp
    with_reducible rfl
  rotate_left
  · simp only [Act.put, List.setIfInBounds_toArray, List.set_cons_zero, List.set_cons_succ, i64_w, i32_w]
    rfl
  refine pure_ (i := 1) (N := some 32) (v := ?_) (a' := ?_) #[true, true, false, false, false, false] rfl rfl (any_of HT_.out (by kernel_rfl)) (fun _ _ _ h => h) (Or.inl ⟨by rfl, ?_⟩) ?_ ?_
  rotate_left
  · intro w'
    go_simp
    with_reducible rfl
  rotate_left
  · simp only [Act.put, List.setIfInBounds_toArray, List.set_cons_zero, List.set_cons_succ, i64_w, i32_w]
    rfl
  refine pure_ (i := 2) (N := some 33) (v := ?_) (a' := ?_) #[true, true, true, false, false, false] rfl rfl (any_of HT_.out (by kernel_rfl)) (fun _ _ _ h => h) (Or.inl ⟨by rfl, ?_⟩) ?_ ?_
  rotate_left
  · intro w'
    go_simp
    with_reducible rfl
  rotate_left
  · simp only [Act.put, List.setIfInBounds_toArray, List.set_cons_zero, List.set_cons_succ, i64_w, i32_w]
    rfl
  refine take_ (i := 3) (N := some 34) (v := ?_) (a' := ?_) #[true, true, true, true, false, false] rfl rfl (take_ofW HT_.out HW_.out (by kernel_rfl)) (fun _ _ _ h => h) (Or.inl ⟨by rfl, ?_⟩) hHeld ?_ ?_
  rotate_left
  · rintro w' ⟨s0, s1, s2, s3, s4⟩
    go_simp
    with_reducible rfl
  rotate_left
  · simp only [Act.put, List.setIfInBounds_toArray, List.set_cons_zero, List.set_cons_succ, i64_w, i32_w]
    rfl
  refine take_ (i := 4) (N := some 35) (v := ?_) (a' := ?_) #[true, true, true, true, true, false] rfl rfl (take_ofW HT_.out HW_.out (by kernel_rfl)) (fun _ _ _ h => h) (Or.inl ⟨by rfl, ?_⟩) hHeld ?_ ?_
  rotate_left
  · rintro w' ⟨s0, s1, s2, s3, s4⟩
    go_simp
    with_reducible rfl
  rotate_left
  · simp only [Act.put, List.setIfInBounds_toArray, List.set_cons_zero, List.set_cons_succ, i64_w, i32_w]
    rfl
  refine one_ (i := 5) (N := some 36) #[true, true, true, true, true, true] rfl rfl (one_of HT_.out (by kernel_rfl)) (by decide) (fun K hK => ?_)
  refine goes_ Try.func91 (by kernel_rfl) rfl #[.pointer (some ⟨h, 0, none⟩), .agg #[.int .i64 y.f0, .int .i64 y.f1, .int .i64 y.f2, .int .i64 (y.f3 - 1)]] (by rfl) rfl rfl (by (try simp only [List.map_toArray, List.map_cons, List.map_nil]); first | done | rfl) ?_
  refine (changeJ h y ⟨y.f0, y.f1, y.f2, y.f3 - 1⟩ R w5 HE.out.2 rfl rfl HLL.out).mono ?_
  rintro e w6 ⟨rfl, q2, q3⟩
  refine ⟨_, rfl, ?_⟩
  have HQ2 := Lib.hid (HE.out.put q3 q2)
  have HQ3 := Lib.hid ((grown_of_below HB.out (some h)).trans q3)
  have HZ6 := Lib.hid (blk_grown HZ.out q3 (fun q => HNZ.out (by cases q; rfl)))
  have HJ6 := Lib.hid (blk_grown HJ.out q3 (fun q => HNE.out (by cases q; rfl)))
  refine hK.out _ _ ⟨(blk_cell (blk_grown HE.out.1 q3 (fun q => HE.out.ne (by cases q; rfl))) 0).trans rfl, (blk_cell (blk_grown HJ.out q3 (fun q => HNE.out (by cases q; rfl))) 0).trans rfl, (blk_cell (blk_grown HJ.out q3 (fun q => HNE.out (by cases q; rfl))) 1).trans rfl, (blk_cell (blk_grown HJ.out q3 (fun q => HNE.out (by cases q; rfl))) 2).trans rfl, (blk_cell (blk_grown HJ.out q3 (fun q => HNE.out (by cases q; rfl))) 3).trans rfl⟩ (fun hHeld => ?_)
  clear hK K
  refine norm_ (a' := ?_) ?_ ?_
  rotate_left
  · show Act.put _ (some 36) _ = _
    simp only [Act.put, List.setIfInBounds_toArray, List.set_cons_zero, List.set_cons_succ, i64_w, i32_w]
    rfl
  clear q2 q3
  refine done_ (done_of HT_.out (by kernel_rfl)) ?_
  have j0 : w6.cell? ⟨a0, 0, none⟩ = some (.int .i64 y.f0) := (blk_cell HJ6.out 0).trans rfl
  have z0 : w6.cell? ⟨zz, 0, none⟩ = some (.int .i64 0) := (blk_cell HZ6.out 0).trans rfl
  have z1 : w6.cell? ⟨zz, 1, none⟩ = some (.bool false) := (blk_cell HZ6.out 1).trans rfl
  have f0 := blk_frozen HZ6.out 0
  have f1 := blk_frozen HZ6.out 1
  go_wp2
  obtain ⟨WW, hWW⟩ : ∃ WW, put2 w6 zz y.f0 false = WW := ⟨_, rfl⟩
  have hzz := put2_own y.f0 false HZ6.out
  have hgr := put2_grown HQ3.out HZB.out y.f0 false
  have hex := HQ2.out.put2 HZ6.out y.f0 false
  rw [hWW] at hzz hgr hex
  unfold put2 at hWW
  rw [hWW]
  clear hWW z0 z1 f0 f1 j0
  have e0 : WW.cell? ⟨zz, 0, none⟩ = some (.int .i64 y.f0) := (blk_cell hzz 0).trans rfl
  have e1 : WW.cell? ⟨zz, 1, none⟩ = some (.bool false) := (blk_cell hzz 1).trans rfl
  exact bodyPost_ret (v := .agg #[.int .i64 y.f0, .bool false]) (by simp [results, Try.results49, go_sem, e0, e1]) rfl ⟨rfl, hex, hgr⟩
def sumJ : List S65 → Int
  | [] => 0
  | x :: l => x.f3 + sumJ l
theorem sumJ_append (l m : List S65) : sumJ (l ++ m) = sumJ l + sumJ m := by
  induction l with
  | nil => simp [sumJ]
  | cons x l ih => simp only [List.cons_append, sumJ, ih]; omega
theorem take_rd {L : List S65} {i : Nat} (h : i < L.length) : L.take (i + 1) = L.take i ++ [rd_T65 L i] := by
  rw [List.take_succ_eq_append_getElem h]; simp [rd_T65, h]
theorem sumJ_take {L : List S65} {i : Nat} (h : i < L.length) : sumJ (L.take (i + 1)) = sumJ (L.take i) + (rd_T65 L i).f3 := by
  rw [take_rd h, sumJ_append]; simp [sumJ]
def lefts (L : List S65) : Prop := ∀ y ∈ L, 0 ≤ y.f3 ∧ y.f3 ≤ 2147483648
theorem sumJ_bnd {L : List S65} (h : lefts L) (i : Nat) : 0 ≤ sumJ (L.take i) ∧ sumJ (L.take i) ≤ (i : Int) * 2147483648 := by
  induction i with
  | zero => simp [sumJ]
  | succ i ih =>
    by_cases hl : i < L.length
    · have h2 := h (rd_T65 L i) (by simp [rd_T65, hl])
      rw [sumJ_take hl]; omega
    · rw [List.take_of_length_le (by omega)]
      rw [List.take_of_length_le (by omega)] at ih
      omega
set_option maxHeartbeats 8000000 in
set_option maxRecDepth 100000 in
theorem left.calls (x h : Nat) (L : List S65) (w : World) (he : ExP w x h L) (hl : L.length < 900000) (hb : lefts L) : Calls Try.prog 48 #[.pointer (some ⟨x, 0, none⟩)] w fun e w' => e = .returned (.int .i64 (sumJ L)) ∧ Below w.heap.size w w' := by
  have HP := Lib.hid (pending.calls x h L w he (by omega))
  have HBD := Lib.hid hb
  clear he hb
  go_enter Try.func48, Try.ntmps48
  go_wp2_with (go_at_call 64; refine HP.out.mono ?_; rintro e w2 ⟨v, rfl, q1, q2⟩; obtain ⟨A, c, rfl, hc, hC⟩ := Kd.R_reads q1; have HC := Lib.hid hC; have HQ2 := Lib.hid q2; clear q1 q2 hc hC)
  go_loopg [3, 9] (L.length + 1) (fun k v3 v9 wr => ∃ i : Nat, v9 = .int .i64 i ∧ v3 = .int .i64 (sumJ (L.take i)) ∧ i ≤ L.length ∧ L.length - i < k ∧ Hid (Below w.heap.size w wr) ∧ Hid (Kd.C k65 wr A L.length L))
  case atStart => exact ⟨0, rfl, by simp [sumJ], by omega, by omega, HQ2, HC⟩
  case round =>
    clear HQ2 HC
    obtain ⟨i, rfl, rfl, hi, hk, HB, HC⟩ := hrel
    by_cases hlt : i < L.length
    · have p0 : (0 : Int) ≤ (i : Int) := by omega
      have q0 : (i : Int) < (L.length : Int) := by omega
      obtain ⟨ad, e0, hx0, hx1, hx2, hx3⟩ := at_T65 HC.out i p0 q0
      cases e0
      simp only [Int.toNat_natCast] at hx0 hx1 hx2 hx3
      have HS := Lib.hid (sumJ_take hlt)
      have b1 := sumJ_bnd HBD.out i
      have b2 := sumJ_bnd HBD.out (i + 1)
      rw [HS.out] at b2
      obtain ⟨b1, b1'⟩ := b1
      obtain ⟨b2, b2'⟩ := b2
      generalize hs : sumJ (L.take i) = s at *
      generalize hy : rd_T65 L (i : Int) = y at *
      have b3 : s + y.f3 ≤ 9000000000000000 := by omega
      have b4 : 0 ≤ y.f3 := by have := (HBD.out y (by rw [← hy]; simp [rd_T65, hlt])).1; exact this
      clear hs hy b1' b2'
      go_wp2
      go_roundg (L.length - i)
      case measure => omega
      case rel => exact ⟨i + 1, by go_num, by rw [HS.out], by omega, by omega, below_alloc HB.out _, Kd.C_below HC.out (below_alloc (Below.refl _ _) _)⟩
    · obtain rfl : i = L.length := by omega
      have HT : Hid (L.take L.length = L) := Lib.hid (List.take_length)
      rw [HT.out]
      go_wp2
      go_ret
      exact ⟨rfl, HB.out⟩
def lateL (now : Int) (L : List S65) : List S65 := L.takeWhile (fun y => decide (y.f2 ≤ now))
theorem late_take {now : Int} : ∀ {L : List S65} {i : Nat}, i ≤ L.length → (∀ j : Nat, j < i → (rd_T65 L j).f2 ≤ now) → (i = L.length ∨ now < (rd_T65 L i).f2) → L.take i = lateL now L
  | [], i, hi, _, _ => by simp [lateL]
  | y :: L, 0, _, _, h => by
    have h2 : now < y.f2 := by
      rcases h with h | h
      · simp at h
      · simpa [rd_T65] using h
    unfold lateL
    rw [List.takeWhile_cons, if_neg (by simp; omega)]; rfl
  | y :: L, i + 1, hi, hj, h => by
    have h0 : y.f2 ≤ now := by simpa [rd_T65] using hj 0 (by omega)
    have ih := late_take (now := now) (L := L) (i := i) (by simpa using hi) (fun j hj' => by simpa [rd_T65] using hj (j + 1) (by omega)) (by
      rcases h with h | h
      · left; simpa using h
      · right; simpa [rd_T65] using h)
    unfold lateL at ih ⊢
    rw [List.takeWhile_cons, if_pos (by simpa using h0), List.take_succ_cons, ih]
set_option maxHeartbeats 8000000 in
set_option maxRecDepth 100000 in
theorem late.calls (x h : Nat) (now : Int) (L : List S65) (w : World) (he : ExP w x h L) (hl : L.length < 900000) : Calls Try.prog 53 #[.pointer (some ⟨x, 0, none⟩), .int .i64 now] w fun e w' => ∃ v : Value, e = .returned v ∧ Kd.R k65 65 w' w.heap.size (fun _ => True) v (lateL now L) ∧ Below w.heap.size w w' := by
  have HP := Lib.hid (pending.calls x h L w he (by omega))
  clear he
  go_enter Try.func53, Try.ntmps53
  go_wp2
  go_step3
  go_wp2
  go_step3
  go_wp2_with (go_at_call 64; refine HP.out.mono ?_; rintro e w2 ⟨v, rfl, q1, q2⟩; obtain ⟨A, c, rfl, hc, hC⟩ := Kd.R_reads q1; have HC := Lib.hid hC; have HQ2 := Lib.hid q2; clear q1 q2 hc hC)
  go_loopg [5, 11] (L.length + 1) (fun k v5 v11 wr => ∃ i : Nat, v11 = .int .i64 i ∧ i ≤ L.length ∧ L.length - i < k ∧ Hid (wr.ownsRow w2.heap.size 65 4 v5 i ((L.take i).flatMap jcl)) ∧ Hid (∀ j : Nat, j < i → (rd_T65 L j).f2 ≤ now) ∧ Hid (Below w2.heap.size w2 wr))
  case atStart => exact ⟨0, rfl, by omega, by omega, Lib.hid ⟨by simp, .inl ⟨rfl, rfl⟩⟩, Lib.hid (fun j hj => absurd hj (Nat.not_lt_zero _)), Lib.hid (Below.refl _ _)⟩
  case round =>
    obtain ⟨i, rfl, hi, hk, HO, HA, HB⟩ := hrel
    by_cases hlt : i < L.length
    · have p0 : (0 : Int) ≤ (i : Int) := by omega
      have q0 : (i : Int) < (L.length : Int) := by omega
      obtain ⟨ad, e0, hx0, hx1, hx2, hx3⟩ := at_T65 HC.out i p0 q0
      cases e0
      replace hx0 := (HB.out.cell (World.block_lt_of_cell? w2 _ hx0)).trans hx0
      replace hx1 := (HB.out.cell (World.block_lt_of_cell? w2 _ hx1)).trans hx1
      replace hx2 := (HB.out.cell (World.block_lt_of_cell? w2 _ hx2)).trans hx2
      replace hx3 := (HB.out.cell (World.block_lt_of_cell? w2 _ hx3)).trans hx3
      simp only [Int.toNat_natCast] at hx0 hx1 hx2 hx3
      have HT := Lib.hid (take_rd hlt)
      by_cases hn : (rd_T65 L (i : Int)).f2 ≤ now
      · have HN : Hid (∀ j : Nat, j < i + 1 → (rd_T65 L j).f2 ≤ now) := Lib.hid (fun j hj => by rcases Nat.lt_succ_iff_lt_or_eq.1 hj with h | rfl; exact HA.out j h; exact hn)
        have hng : ¬ (rd_T65 L (i : Int)).f2 > now := by omega
        generalize hy : rd_T65 L (i : Int) = y at *
        clear hy hn
        go_wp2_with (at_builtin; refine print_append_cells (w0 := w2) (W := wr.alloc (.cells #[.int .i64 y.f0, .int .i64 y.f1, .int .i64 y.f2, .int .i64 y.f3] 65)) w2.heap.size rfl (.tmp 19) (.tmp 21) 60 65 (.agg #[.int .i64 0, .int .i64 0, .int .i64 0, .int .i64 0]) 4 32 rfl Try.underlying60 info65 rfl (by decide) (by decide) _ i _ [.int .i64 y.f0, .int .i64 y.f1, .int .i64 y.f2, .int .i64 y.f3] rfl (by rw [World.size_alloc]; rfl) rfl (by simp [Value.oneCell']) (HO.out.alloc _) (below_alloc HB.out _) (by have := HB.out.size; simp; omega) (by omega) ?_; intro v1 w7 q1 q2 q3 _; have HO7 := Lib.hid q1; have HB7 := Lib.hid q2; have HG7 := Lib.hid q3; clear q1 q2 q3)
        go_roundg (L.length - i)
        case measure => omega
        case rel => exact ⟨i + 1, by go_num, by omega, by omega, Lib.hid (by rw [HT.out, List.flatMap_append]; simpa [jcl] using HO7.out), HN, HB7⟩
      · have hng : (rd_T65 L (i : Int)).f2 > now := by omega
        have HE := Lib.hid (late_take hi HA.out (Or.inr (by omega)))
        generalize hy : rd_T65 L (i : Int) = y at *
        clear hy hn
        go_wp2
        try rw [Exit.noGoto_ret]
        go_ret
        exact ⟨_, rfl, by rw [← HE.out]; refine jown_R (base := w2.heap.size) ?_ HQ2.out.size; rw [List.length_take_of_le hi]; exact HO.out.alloc _, below_alloc (below_step HQ2.out HB.out) _⟩
    · have HE := Lib.hid (late_take hi HA.out (Or.inl (by omega)))
      obtain rfl : i = L.length := by omega
      go_wp2
      try rw [Exit.noGoto_ret]
      go_ret
      exact ⟨_, rfl, by rw [← HE.out]; refine jown_R (base := w2.heap.size) ?_ HQ2.out.size; rw [List.length_take_of_le (Nat.le_refl _)]; exact HO.out, below_step HQ2.out HB.out⟩
set_option maxHeartbeats 8000000 in
set_option maxRecDepth 100000 in
theorem drop.calls (x h : Nat) (L : List S65) (w : World) (he : ExP w x h L) (hl : L.length < 900000) : Calls Try.prog 61 #[.pointer (some ⟨x, 0, none⟩)] w fun e w' => ∃ (v : Value) (h' : Nat), e = .returned v ∧ Kd.R k65 65 w' w.heap.size (fun _ => True) v L ∧ w.heap.size ≤ h' ∧ ExP w' x h' [] ∧ w.grownBy w' (some x) := by
  have HP := Lib.hid (pending.calls x h L w he (by omega))
  have HE := Lib.hid he
  have hxl := blk_lt he.1
  clear he
  go_enter Try.func61, Try.ntmps61
  go_wp2_with (first
    | (go_at_call 64; refine HP.out.mono ?_; rintro e w2 ⟨v, rfl, q1, q2⟩; have HR := Lib.hid q1; have HQ2 := Lib.hid q2; clear q1 q2)
    | (go_at_call 85; refine (new.calls _).mono ?_; rintro e w3 ⟨g, rfl, q1, q2, q3⟩; have HQ1 := Lib.hid q1; have HG := Lib.hid q2; have HQ3 := Lib.hid q3; have hx3 := blk_below (HE.out.1) (below_step HQ2.out q3); have x0 : w3.cell? ⟨x, 0, none⟩ = some (.pointer (some ⟨h, 0, none⟩)) := (blk_cell hx3 0).trans rfl; have f0 := blk_frozen hx3 0; have HX3 := Lib.hid hx3; clear q1 q2 q3 hx3))
  go_ret
  have hgr := (grown_of_below (below_step HQ2.out HQ3.out) (some x)).trans (PxR.grown_set w3 ⟨x, 0, none⟩ (.pointer (some ⟨g, 0, none⟩)))
  have hxk := blk_put (cs' := #[.pointer (some ⟨g, 0, none⟩)]) HX3.out 0 (.pointer (some ⟨g, 0, none⟩)) rfl
  refine ⟨v, g, rfl, ?_, by have := HQ1.out; have := HQ2.out.size; omega, ⟨hxk, ?_⟩, hgr⟩
  · exact Kd.R_set (Kd.R_below HR.out HQ3.out) HX3.out (by decide) 0 _
  · exact (HpJ.new HG.out).grown (PxR.grown_set w3 ⟨x, 0, none⟩ _) (fun q => by have a := HQ1.out; have b := HQ2.out.size; have e := Option.some.inj q; simp only at e; omega) (fun r cs q k => by cases q; rw [HX3.out] at k; injection k with k; injection k with _ k; exact absurd k (by decide))
theorem and_7 (n : Int) : Go.bits .and .i64 n 7 = n % 8 := by
  have h127 : (BitVec.ofInt 64 7).toNat = 2 ^ 3 - 1 := by decide
  have key : (BitVec.ofInt 64 n &&& BitVec.ofInt 64 7).toNat = (n % ((2 ^ 64 : Nat) : Int)).toNat % 2 ^ 3 := by
    rw [BitVec.toNat_and, BitVec.toNat_ofInt, h127, Nat.and_two_pow_sub_one_eq_mod]
  show IntKind.i64.wrap ((BitVec.ofInt 64 n &&& BitVec.ofInt 64 7).toNat : Nat) = n % 8
  rw [key, IntKind.wrap_i64]
  omega
theorem and_15 (n : Int) : Go.bits .and .i64 n 15 = n % 16 := by
  have h127 : (BitVec.ofInt 64 15).toNat = 2 ^ 4 - 1 := by decide
  have key : (BitVec.ofInt 64 n &&& BitVec.ofInt 64 15).toNat = (n % ((2 ^ 64 : Nat) : Int)).toNat % 2 ^ 4 := by
    rw [BitVec.toNat_and, BitVec.toNat_ofInt, h127, Nat.and_two_pow_sub_one_eq_mod]
  show IntKind.i64.wrap ((BitVec.ofInt 64 n &&& BitVec.ofInt 64 15).toNat : Nat) = n % 16
  rw [key, IntKind.wrap_i64]
  omega
theorem and_3 (n : Int) : Go.bits .and .i64 n 3 = n % 4 := by
  have h127 : (BitVec.ofInt 64 3).toNat = 2 ^ 2 - 1 := by decide
  have key : (BitVec.ofInt 64 n &&& BitVec.ofInt 64 3).toNat = (n % ((2 ^ 64 : Nat) : Int)).toNat % 2 ^ 2 := by
    rw [BitVec.toNat_and, BitVec.toNat_ofInt, h127, Nat.and_two_pow_sub_one_eq_mod]
  show IntKind.i64.wrap ((BitVec.ofInt 64 n &&& BitVec.ofInt 64 3).toNat : Nat) = n % 4
  rw [key, IntKind.wrap_i64]
  omega
theorem and_31 (n : Int) : Go.bits .and .i64 n 31 = n % 32 := by
  have h127 : (BitVec.ofInt 64 31).toNat = 2 ^ 5 - 1 := by decide
  have key : (BitVec.ofInt 64 n &&& BitVec.ofInt 64 31).toNat = (n % ((2 ^ 64 : Nat) : Int)).toNat % 2 ^ 5 := by
    rw [BitVec.toNat_and, BitVec.toNat_ofInt, h127, Nat.and_two_pow_sub_one_eq_mod]
  show IntKind.i64.wrap ((BitVec.ofInt 64 n &&& BitVec.ofInt 64 31).toNat : Nat) = n % 32
  rw [key, IntKind.wrap_i64]
  omega
theorem ExP.keep {w w' : World} {x h k t : Nat} {L : List S65} {cs : Array Value} (e : ExP w x h L) (hg : w.grownBy w' (some h)) (hk : w.heap[k]? = some (.cells cs t (0, 0))) (ht : t ≠ 143) : w'.heap[k]? = some (.cells cs t (0, 0)) := blk_grown hk hg (fun q => e.2.ne hk ht (by cases q; rfl))
set_option maxHeartbeats 8000000 in
set_option maxRecDepth 100000 in
theorem awake18.calls (w : World) : Calls Try.prog 44 #[] w fun e w' => e = .returned (.bool true) ∧ Below w.heap.size w w' := by
  go_enter Try.func44, Try.ntmps44
  go_wp2_with (first
    | (go_at_call 45; refine (newE.calls _).mono ?_; rintro e w1 ⟨x, h, rfl, q1, q2, q3, q4⟩; have HH := Lib.hid q2; have HE1 := Lib.hid q3; have HWB1 := Lib.hid q4; clear q1 q2 q3 q4)
    | (go_at_call 47; (with_reducible refine (addE.calls x h (⟨1, 0, 9, 2⟩ : S65) [] _ HE1.out (by decide) (by decide) (by decide)).mono ?_); rintro e w2 ⟨rfl, q1, q2⟩; have HE2 := Lib.hid (show ExP w2 x h [(⟨1, 0, 9, 2⟩ : S65)] from q1); have HWB2 := Lib.hid (HWB1.out.grown q2 HWB1.out.size (fun r e => by cases e; exact HH.out)); clear q1 q2)
    | (go_at_call 47; (with_reducible refine (addE.calls x h (⟨2, 0, 5, 1⟩ : S65) [(⟨1, 0, 9, 2⟩ : S65)] _ HE2.out (by decide) (by decide) (by decide)).mono ?_); rintro e w3 ⟨rfl, q1, q2⟩; have HE3 := Lib.hid (show ExP w3 x h [(⟨2, 0, 5, 1⟩ : S65), (⟨1, 0, 9, 2⟩ : S65)] from q1); have HWB3 := Lib.hid (HWB2.out.grown q2 HWB2.out.size (fun r e => by cases e; exact HH.out)); clear q1 q2)
    | (go_at_call 47; (with_reducible refine (addE.calls x h (⟨0, 0, 9, 1⟩ : S65) [(⟨2, 0, 5, 1⟩ : S65), (⟨1, 0, 9, 2⟩ : S65)] _ HE3.out (by decide) (by decide) (by decide)).mono ?_); rintro e w4 ⟨rfl, q1, q2⟩; have HE4 := Lib.hid (show ExP w4 x h [(⟨2, 0, 5, 1⟩ : S65), (⟨0, 0, 9, 1⟩ : S65), (⟨1, 0, 9, 2⟩ : S65)] from q1); have HWB4 := Lib.hid (HWB3.out.grown q2 HWB3.out.size (fun r e => by cases e; exact HH.out)); clear q1 q2)
    | (go_at_call 49; (with_reducible refine (runE_done.calls x h (⟨2, 0, 5, 1⟩ : S65) [(⟨0, 0, 9, 1⟩ : S65), (⟨1, 0, 9, 2⟩ : S65)] _ HE4.out (by decide) (by decide)).mono ?_); rintro e w5 ⟨rfl, q1, q2⟩; have HE5 := Lib.hid ((show ExP w5 x h [(⟨0, 0, 9, 1⟩ : S65), (⟨1, 0, 9, 2⟩ : S65)] from q1).below (below_alloc (Below.refl _ _) (.cells #[.int .i64 2, .bool true] 73))); have HWB5 := Lib.hid (below_alloc (HWB4.out.grown q2 HWB4.out.size (fun r e => by cases e; exact HH.out)) (.cells #[.int .i64 2, .bool true] 73)); have HA5 := Lib.hid (heap_alloc_new w5 (.cells #[.int .i64 2, .bool true] 73)); clear q1 q2)
    | (go_at_call 49; (with_reducible refine (runE_done.calls x h (⟨0, 0, 9, 1⟩ : S65) [(⟨1, 0, 9, 2⟩ : S65)] _ HE5.out (by decide) (by decide)).mono ?_); rintro e w6 ⟨rfl, q1, q2⟩; have HE6 := Lib.hid ((show ExP w6 x h [(⟨1, 0, 9, 2⟩ : S65)] from q1).below (below_alloc (Below.refl _ _) (.cells #[.int .i64 0, .bool true] 73))); have HWB6 := Lib.hid (below_alloc (HWB5.out.grown q2 HWB5.out.size (fun r e => by cases e; exact HH.out)) (.cells #[.int .i64 0, .bool true] 73)); have HA6 := Lib.hid (blk_alloc (HE5.out.keep q2 HA5.out (by decide)) (.cells #[.int .i64 0, .bool true] 73)); have HB6 := Lib.hid (heap_alloc_new w6 (.cells #[.int .i64 0, .bool true] 73)); clear q1 q2)
    | (go_at_call 49; (with_reducible refine (runE_more.calls x h (⟨1, 0, 9, 2⟩ : S65) [] _ HE6.out (by decide) (by decide) (by decide)).mono ?_); rintro e w7 ⟨rfl, q1, q2⟩; have HE7 := Lib.hid ((show ExP w7 x h [(⟨1, 0, 9, 1⟩ : S65)] from q1).below (below_alloc (Below.refl _ _) (.cells #[.int .i64 1, .bool false] 73))); have HWB7 := Lib.hid (below_alloc (HWB6.out.grown q2 HWB6.out.size (fun r e => by cases e; exact HH.out)) (.cells #[.int .i64 1, .bool false] 73)); have HA7 := Lib.hid (blk_alloc (HE6.out.keep q2 HA6.out (by decide)) (.cells #[.int .i64 1, .bool false] 73)); have HB7 := Lib.hid (blk_alloc (HE6.out.keep q2 HB6.out (by decide)) (.cells #[.int .i64 1, .bool false] 73)); have HC7 := Lib.hid (heap_alloc_new w7 (.cells #[.int .i64 1, .bool false] 73)); clear q1 q2)
    | (go_at_call 49; (with_reducible refine (runE_done.calls x h (⟨1, 0, 9, 1⟩ : S65) [] _ HE7.out (by decide) (by decide)).mono ?_); rintro e w8 ⟨rfl, q1, q2⟩; have HE8 := Lib.hid ((show ExP w8 x h [] from q1).below (below_alloc (Below.refl _ _) (.cells #[.int .i64 1, .bool true] 73))); have HWB8 := Lib.hid (below_alloc (HWB7.out.grown q2 HWB7.out.size (fun r e => by cases e; exact HH.out)) (.cells #[.int .i64 1, .bool true] 73)); have HA8 := Lib.hid (blk_alloc (HE7.out.keep q2 HA7.out (by decide)) (.cells #[.int .i64 1, .bool true] 73)); have HB8 := Lib.hid (blk_alloc (HE7.out.keep q2 HB7.out (by decide)) (.cells #[.int .i64 1, .bool true] 73)); have HC8 := Lib.hid (blk_alloc (HE7.out.keep q2 HC7.out (by decide)) (.cells #[.int .i64 1, .bool true] 73)); have HD8 := Lib.hid (heap_alloc_new w8 (.cells #[.int .i64 1, .bool true] 73)); clear q1 q2; have a0 := (blk_cell HA8.out 0).trans rfl; have a1 := (blk_cell HA8.out 1).trans rfl; have b0 := (blk_cell HB8.out 0).trans rfl; have b1 := (blk_cell HB8.out 1).trans rfl; have c0 := (blk_cell HC8.out 0).trans rfl; have c1 := (blk_cell HC8.out 1).trans rfl)
    | (go_at_call 50; refine (idle.calls x h [] _ HE8.out).mono ?_; rintro e w9 ⟨rfl, rfl⟩))
  go_ret
  exact ⟨rfl, HWB8.out⟩
/-- A job that is near. -/
def near (y : S65) : S65 := ⟨y.f0 % 8, y.f1 % 16, y.f1 % 16 + 1 + y.f2 % 16, 1 + y.f3 % 4⟩
theorem near_may (y : S65) : jmay (near y) = true := by
  unfold jmay near
  simp only [Bool.and_eq_true, decide_eq_true_eq]
  omega
theorem near_lo (y : S65) : 0 ≤ (near y).f0 ∧ (near y).f0 ≤ 7 ∧ 1 ≤ (near y).f3 ∧ (near y).f3 ≤ 4 ∧ 1 ≤ (near y).f2 ∧ (near y).f2 ≤ 31 := by
  unfold near; simp only; omega
set_option maxHeartbeats 8000000 in
set_option maxRecDepth 100000 in
theorem jobNear.calls (k : Int) (y : S65) (d : Bool) (w : World) : Calls Try.prog 46 #[.agg #[.int .i64 k, .int .i64 y.f0, .int .i64 y.f1, .int .i64 y.f2, .int .i64 y.f3, .bool true, .bool d]] w fun e w' => e = .returned (.agg #[.int .i64 (near y).f0, .int .i64 (near y).f1, .int .i64 (near y).f2, .int .i64 (near y).f3]) ∧ Below w.heap.size w w' := by
  have HN := Lib.hid (near_lo y)
  have a1 : Go.bits .and .i64 y.f0 7 = y.f0 % 8 := and_7 _
  have a2 : Go.bits .and .i64 y.f1 15 = y.f1 % 16 := and_15 _
  have a3 : Go.bits .and .i64 y.f2 15 = y.f2 % 16 := and_15 _
  have a4 : Go.bits .and .i64 y.f3 3 = y.f3 % 4 := and_3 _
  obtain ⟨m1, h1⟩ : ∃ m, y.f1 % 16 = m := ⟨_, rfl⟩
  obtain ⟨m2, h2⟩ : ∃ m, y.f2 % 16 = m := ⟨_, rfl⟩
  obtain ⟨m3, h3⟩ : ∃ m, y.f3 % 4 = m := ⟨_, rfl⟩
  obtain ⟨m0, h0⟩ : ∃ m, y.f0 % 8 = m := ⟨_, rfl⟩
  have b1 : 0 ≤ m1 := by omega
  have b2 : m1 < 16 := by omega
  have b3 : 0 ≤ m2 := by omega
  have b4 : m2 < 16 := by omega
  have b5 : 0 ≤ m3 := by omega
  have b6 : m3 < 4 := by omega
  have HE : Hid (near y = ⟨m0, m1, m1 + 1 + m2, 1 + m3⟩) := by unfold near; rw [h0, h1, h2, h3]; exact Lib.hid rfl
  rw [h0] at a1
  rw [h1] at a2
  rw [h2] at a3
  rw [h3] at a4
  clear h0 h1 h2 h3
  rw [HE.out]
  clear HN
  go_enter Try.func46, Try.ntmps46
  go_wp2
  exact bodyPost_ret (v := .agg #[.int .i64 m0, .int .i64 m1, .int .i64 (m1 + 1 + m2), .int .i64 (1 + m3)]) (by simp [results, Try.results46, go_sem]) rfl ⟨rfl, below_alloc (below_alloc (below_alloc (Below.refl _ _) _) _) _⟩
set_option maxHeartbeats 8000000 in
set_option maxRecDepth 100000 in
theorem jobRaw.calls (k : Int) (y : S65) (d : Bool) (w : World) : Calls Try.prog 46 #[.agg #[.int .i64 k, .int .i64 y.f0, .int .i64 y.f1, .int .i64 y.f2, .int .i64 y.f3, .bool false, .bool d]] w fun e w' => e = .returned (.agg #[.int .i64 y.f0, .int .i64 y.f1, .int .i64 y.f2, .int .i64 y.f3]) ∧ Below w.heap.size w w' := by
  go_enter Try.func46, Try.ntmps46
  go_wp2
  exact bodyPost_ret (v := .agg #[.int .i64 y.f0, .int .i64 y.f1, .int .i64 y.f2, .int .i64 y.f3]) (by simp [results, Try.results46, go_sem]) rfl ⟨rfl, below_alloc (below_alloc (below_alloc (Below.refl _ _) _) _) _⟩
theorem lateL_filter {t : Int} {L : List S65} (h : Hg.SrtG jlt L) : lateL t L = L.filter (fun y => decide (y.f2 ≤ t)) := by
  induction L with
  | nil => rfl
  | cons y L ih =>
    obtain ⟨h1, h2⟩ := List.pairwise_cons.1 h
    have ih := ih h2
    unfold lateL at ih ⊢
    by_cases hy : y.f2 ≤ t
    · rw [List.takeWhile_cons, if_pos (by simpa using hy), List.filter_cons, if_pos (by simpa using hy), ih]
    · rw [List.takeWhile_cons, if_neg (by simpa using hy), List.filter_cons, if_neg (by simpa using hy)]
      symm
      rw [List.filter_eq_nil_iff]
      intro b hb
      have := h1 b hb
      unfold jlt at this
      have := of_decide_eq_false this
      simp only [decide_eq_true_eq]
      omega
theorem lateL_ins {t : Int} {y : S65} {L : List S65} (h : Hg.SrtG jlt L) : (lateL t (Hg.insG jlt y L)).length = (lateL t L).length + if y.f2 ≤ t then 1 else 0 := by
  rw [lateL_filter (Hg.insG_srt jlt_wo.asym jlt_wo.ntr h), lateL_filter h, ((Hg.insG_perm jlt y L).filter _).length_eq, List.filter_cons]
  by_cases hy : y.f2 ≤ t
  · rw [if_pos (by simpa using hy), if_pos hy]; rfl
  · rw [if_neg (by simpa using hy), if_neg hy]; rfl
theorem ExP.srt {w : World} {x h : Nat} {L : List S65} (e : ExP w x h L) : Hg.SrtG jlt L := e.2.2.1
theorem blk_off {w : World} {g k : Nat} {o : Obj} (h : w.heap[g]? = some o) (hne : g ≠ k) (j : Nat) (v : Value) : (w.setCell ⟨k, j, none⟩ v).heap[g]? = some o := (Below.heap_setCell w ⟨k, j, none⟩ v g hne).trans h
/-- An add of a job that may be: told by what was there. -/
theorem addE_any (x h : Nat) (y : S65) (L : List S65) (w : World) (he : ExP w x h L) (hm : jmay y = true) (hl : L.length < 1000000) :
    (y.f0 ∉ ids L ∧ Calls Try.prog 47 #[.pointer (some ⟨x, 0, none⟩), .agg #[.int .i64 y.f0, .int .i64 y.f1, .int .i64 y.f2, .int .i64 y.f3]] w fun e w' => e = .returned (.int .i64 0) ∧ ExP w' x h (Hg.insG jlt y L) ∧ w.grownBy w' (some h)) ∨ (y.f0 ∈ ids L ∧ Calls Try.prog 47 #[.pointer (some ⟨x, 0, none⟩), .agg #[.int .i64 y.f0, .int .i64 y.f1, .int .i64 y.f2, .int .i64 y.f3]] w fun e w' => e = .returned (.int .i64 14) ∧ Below w.heap.size w w') := by
  by_cases hi : y.f0 ∈ ids L
  · exact Or.inr ⟨hi, addE_there.calls x h y L w he hm hi hl⟩
  · exact Or.inl ⟨hi, addE.calls x h y L w he hm hi hl⟩
/-- A row of jobs in memory. -/
def RwJ (w : World) (A : Option Addr) (L : List S65) : Prop := L = [] ∨ ∃ (b o : Nat) (cells : Array Value), A = some ⟨b, o, none⟩ ∧ w.heap[b]? = some (.cells cells 65 (0, 0)) ∧ ∀ i p, L[i]? = some p → ∀ j u, (jcl p)[j]? = some u → cells[o + (i * 4 + j)]? = some u
/-- The reference's executive. -/
def RfJ (w : World) (hb : Nat) (L : List S65) : Prop := ∃ (A : Option Addr) (c : Nat), w.heap[hb]? = some (.cells #[.slice A L.length c] 97 (0, 0)) ∧ L.length ≤ c ∧ RwJ w A L
theorem RwJ.keep {w w' : World} {A : Option Addr} {L : List S65} (h : RwJ w A L) (hk : ∀ (q : Nat) (cs : Array Value), w.heap[q]? = some (.cells cs 65 (0, 0)) → w'.heap[q]? = some (.cells cs 65 (0, 0))) : RwJ w' A L := by
  rcases h with h | ⟨b, o, cells, h1, h2, h3⟩
  · exact .inl h
  · exact .inr ⟨b, o, cells, h1, hk _ _ h2, h3⟩
theorem RwJ.below {w w' : World} {A : Option Addr} {L : List S65} (h : RwJ w A L) (hb : Below w.heap.size w w') : RwJ w' A L := h.keep fun q cs hq => blk_below hq hb
theorem RfJ.lt {w : World} {hb : Nat} {L : List S65} (h : RfJ w hb L) : hb < w.heap.size := by
  obtain ⟨A, c, h1, _⟩ := h
  exact blk_lt h1
theorem RfJ.below {w w' : World} {hb : Nat} {L : List S65} (h : RfJ w hb L) (hbl : Below w.heap.size w w') : RfJ w' hb L := by
  obtain ⟨A, c, h1, h3, h4⟩ := h
  exact ⟨A, c, blk_below h1 hbl, h3, h4.below hbl⟩
theorem ne_type {w : World} {a b T U : Nat} {cs ds : Array Value} (ha : w.heap[a]? = some (.cells cs T (0, 0))) (hb : w.heap[b]? = some (.cells ds U (0, 0))) (hT : T ≠ U) : a ≠ b := fun e => by
  subst e
  rw [ha] at hb
  injection hb with hb
  injection hb with _ hb
  exact hT hb
/-- A block of another type was turned. -/
theorem RfJ.turned {w w' : World} {hb k t : Nat} {cs : Array Value} {L : List S65} (h : RfJ w hb L) (hk : w.heap[k]? = some (.cells cs t (0, 0))) (h1 : t ≠ 97) (h2 : t ≠ 65) (hg : w.grownBy w' (some k)) : RfJ w' hb L := by
  obtain ⟨A, c, g1, g2, g3⟩ := h
  exact ⟨A, c, blk_grown g1 hg (fun e => ne_type hk g1 h1 (Option.some.inj e).symm), g2, g3.keep fun q cs hq => blk_grown hq hg (fun e => ne_type hk hq h2 (Option.some.inj e).symm)⟩
theorem RfJ.heap {w w' : World} {hb x h : Nat} {L M : List S65} (r : RfJ w hb L) (e : ExP w x h M) (hg : w.grownBy w' (some h)) : RfJ w' hb L := by
  obtain ⟨v, t, g1, _⟩ := e.2.1
  exact r.turned g1 (by decide) (by decide) hg
theorem RfJ.exec {w w' : World} {hb x h : Nat} {L M : List S65} (r : RfJ w hb L) (e : ExP w x h M) (hg : w.grownBy w' (some x)) : RfJ w' hb L := r.turned e.1 (by decide) (by decide) hg
/-- The reference's executive was turned. -/
theorem ExP.ref {w w' : World} {hb x h : Nat} {L M : List S65} (e : ExP w x h M) (r : RfJ w hb L) (hg : w.grownBy w' (some hb)) : ExP w' x h M := by
  obtain ⟨A, c, g1, _, _⟩ := r
  exact e.grown hg (fun q => ne_type e.1 g1 (by decide) (Option.some.inj q)) (fun q => e.2.ne g1 (by decide) (Option.some.inj q).symm) (fun r cs q hr => ne_type g1 hr (by decide) (Option.some.inj q))
theorem rwj_C {w : World} {A : Option Addr} {L : List S65} (h : RwJ w A L) (hl : L.length ≤ 1000000) : Kd.C k65 w A L.length L := by
  refine ⟨rfl, by omega, fun hp => ?_⟩
  rcases h with h | ⟨b, o, cells, h1, h2, h3⟩
  · subst h; exact absurd hp (by simp)
  · refine ⟨⟨b, o, none⟩, h1, fun j p hj => ⟨jcl p, rfl, k65_mk _ _, fun i u hu => ?_⟩⟩
    have e : (⟨b, o, none⟩ : Addr).add (j * 4 + i) = ⟨b, o + (j * 4 + i), none⟩ := by unfold Addr.add; split <;> simp_all
    show w.cell? ((⟨b, o, none⟩ : Addr).add (j * 4 + i)) = some u
    rw [e]
    exact (blk_cell h2 _).trans (h3 j p hj i u hu)
theorem flat_at : ∀ (L : List S65) (i : Nat) (p : S65), L[i]? = some p → ∀ (j : Nat) (u : Value), (jcl p)[j]? = some u → (L.flatMap jcl)[i * 4 + j]? = some u
  | [], i, p, h, _, _, _ => by simp at h
  | x :: L, 0, p, h, j, u, hu => by
    simp only [List.getElem?_cons_zero, Option.some.injEq] at h
    subst h
    have hj : j < (jcl x).length := (List.getElem?_eq_some_iff.1 hu).1
    rw [List.flatMap_cons, Nat.zero_mul, Nat.zero_add, List.getElem?_append_left hj]
    exact hu
  | x :: L, i + 1, p, h, j, u, hu => by
    rw [List.flatMap_cons, List.getElem?_append_right (by simp [jcl]; omega)]
    have e : (i + 1) * 4 + j - (jcl x).length = i * 4 + j := by simp [jcl]; omega
    rw [e]
    exact flat_at L i p (by simpa using h) j u hu
theorem rwj_own {W : World} {base : Nat} {v : Value} {xs : List S65} (h : W.ownsRow base 65 4 v xs.length (xs.flatMap jcl)) : ∃ A c, v = .slice A xs.length c ∧ xs.length ≤ c ∧ RwJ W A xs := by
  rcases h.2 with ⟨rfl, h0⟩ | ⟨g, cap, cur, rfl, hb, hg, hc, hm, hz, ht⟩
  · have : xs = [] := List.length_eq_zero_iff.1 h0
    subst this
    exact ⟨none, 0, rfl, Nat.le_refl _, .inl rfl⟩
  · refine ⟨_, cap, rfl, hc, .inr ⟨g, 0, cur, rfl, hg, fun i p hp j u hu => ?_⟩⟩
    have h1 := flat_at xs i p hp j u hu
    have hlt := (List.getElem?_eq_some_iff.1 h1).1
    rw [jcl_len] at hlt
    rw [← ht, List.getElem?_take, if_pos hlt] at h1
    rw [Nat.zero_add, ← Array.getElem?_toList]
    exact h1
theorem rf_set {W : World} {hb : Nat} {u : Value} {A : Option Addr} {c : Nat} {L : List S65} (h1 : W.heap[hb]? = some (.cells #[u] 97 (0, 0))) (hc : L.length ≤ c) (hr : RwJ W A L) : RfJ (W.setCell ⟨hb, 0, none⟩ (.slice A L.length c)) hb L :=
  ⟨A, c, blk_set h1 0 _, hc, hr.keep fun q cs hq => blk_off hq (ne_type hq h1 (by decide)) 0 _⟩
set_option maxHeartbeats 8000000 in
set_option maxRecDepth 100000 in
theorem rahead.calls (x y : S65) (w : World) : Calls Try.prog 98 #[.agg #[.int .i64 x.f0, .int .i64 x.f1, .int .i64 x.f2, .int .i64 x.f3], .agg #[.int .i64 y.f0, .int .i64 y.f1, .int .i64 y.f2, .int .i64 y.f3]] w fun e w' => e = .returned (.bool (jlt x y)) ∧ Below w.heap.size w w' := by
  by_cases h1 : x.f2 < y.f2
  · have HE : Hid (jlt x y = true) := Lib.hid (decide_eq_true (Or.inl h1))
    go_enter Try.func98, Try.ntmps98
    go_wp2
    go_ret
    exact ⟨by rw [HE.out]; rfl, below_alloc (below_alloc (Below.refl _ _) _) _⟩
  · by_cases h2 : x.f2 = y.f2
    · by_cases h3 : x.f0 < y.f0
      · have HE : Hid (jlt x y = true) := Lib.hid (decide_eq_true (Or.inr ⟨h2, h3⟩))
        have h2b : (x.f2 == y.f2) = true := by simpa using h2
        clear h2
        go_enter Try.func98, Try.ntmps98
        go_wp2
        go_ret
        exact ⟨by rw [HE.out]; rfl, below_alloc (below_alloc (Below.refl _ _) _) _⟩
      · have HE : Hid (jlt x y = false) := Lib.hid (decide_eq_false (by omega))
        have h2b : (x.f2 == y.f2) = true := by simpa using h2
        clear h2
        go_enter Try.func98, Try.ntmps98
        go_wp2
        go_ret
        exact ⟨by rw [HE.out]; rfl, below_alloc (below_alloc (Below.refl _ _) _) _⟩
    · have HE : Hid (jlt x y = false) := Lib.hid (decide_eq_false (by omega))
      have h2b : (x.f2 == y.f2) = false := by simpa using h2
      clear h2
      go_enter Try.func98, Try.ntmps98
      go_wp2
      go_ret
      exact ⟨by rw [HE.out]; rfl, below_alloc (below_alloc (Below.refl _ _) _) _⟩
/-- The cell of the reference's executive. -/
theorem rf_cell {w : World} {hb : Nat} {L : List S65} (h : RfJ w hb L) (hl : L.length ≤ 1000000) : ∃ A c, w.cell? ⟨hb, 0, none⟩ = some (.slice A L.length c) ∧ L.length ≤ c ∧ RwJ w A L ∧ Kd.C k65 w A L.length L := by
  obtain ⟨A, c, h1, h2, h3⟩ := h
  exact ⟨A, c, (blk_cell h1 0).trans rfl, h2, h3, rwj_C h3 hl⟩
set_option maxHeartbeats 8000000 in
set_option maxRecDepth 100000 in
theorem rhas.calls (hb : Nat) (id : Int) (L : List S65) (w : World) (h : RfJ w hb L) (hl : L.length ≤ 1000000) : Calls Try.prog 68 #[.pointer (some ⟨hb, 0, none⟩), .int .i64 id] w fun e w' => e = .returned (.bool (hasB id L)) ∧ w = w' := by
  obtain ⟨A, c, c0, _, _, hC⟩ := rf_cell h hl
  have HC := Lib.hid hC
  clear h hC
  go_enter Try.func68, Try.ntmps68
  go_wp2
  go_loopg [5] (L.length + 1) (fun k v5 wr => ∃ i : Nat, v5 = .int .i64 i ∧ i ≤ L.length ∧ L.length - i < k ∧ Hid (∀ j : Nat, j < i → ((rd_T65 L j).f0 == id) = false) ∧ w = wr)
  case atStart => exact ⟨0, rfl, by omega, by omega, Lib.hid (fun j hj => absurd hj (Nat.not_lt_zero _)), rfl⟩
  case round =>
    obtain ⟨i, rfl, hi, hk, HA, rfl⟩ := hrel
    by_cases hlt : i < L.length
    · have p0 : (0 : Int) ≤ (i : Int) := by omega
      have q0 : (i : Int) < (L.length : Int) := by omega
      obtain ⟨ad, e0, hx0, hx1, hx2, hx3⟩ := at_T65 HC.out i p0 q0
      cases e0
      simp only [Int.toNat_natCast] at hx0 hx1 hx2 hx3
      cases hv : ((rd_T65 L (i : Int)).f0 == id) with
      | false =>
        have HN : Hid (∀ j : Nat, j < i + 1 → ((rd_T65 L j).f0 == id) = false) := Lib.hid (fun j hj => by rcases Nat.lt_succ_iff_lt_or_eq.1 hj with h | rfl; exact HA.out j h; exact hv)
        go_wp2
        go_roundg (L.length - i)
        case measure => omega
        case rel => exact ⟨i + 1, by go_num, by omega, by omega, HN, rfl⟩
      | true =>
        have HT := Lib.hid (hasAt_some hlt HA.out hv)
        go_wp2
        go_ret
        exact ⟨by rw [← hasAt_B, HT.out]; simp, rfl⟩
    · have HT := Lib.hid (hasAt_none (id := id) (l := L) (fun j hj => HA.out j (by omega)))
      go_wp2
      go_ret
      exact ⟨by rw [← hasAt_B, HT.out]; rfl, rfl⟩
set_option maxHeartbeats 8000000 in
set_option maxRecDepth 100000 in
theorem rleft.calls (hb : Nat) (L : List S65) (w : World) (h : RfJ w hb L) (hl : L.length < 900000) (hf : lefts L) : Calls Try.prog 66 #[.pointer (some ⟨hb, 0, none⟩)] w fun e w' => e = .returned (.int .i64 (sumJ L)) ∧ w = w' := by
  obtain ⟨A, c, c0, _, _, hC⟩ := rf_cell h (by omega)
  have HC := Lib.hid hC
  have HBD := Lib.hid hf
  clear h hC hf
  go_enter Try.func66, Try.ntmps66
  go_wp2
  go_loopg [3, 4] (L.length + 1) (fun k v3 v4 wr => ∃ i : Nat, v4 = .int .i64 i ∧ v3 = .int .i64 (sumJ (L.take i)) ∧ i ≤ L.length ∧ L.length - i < k ∧ w = wr)
  case atStart => exact ⟨0, rfl, by simp [sumJ], by omega, by omega, rfl⟩
  case round =>
    obtain ⟨i, rfl, rfl, hi, hk, rfl⟩ := hrel
    by_cases hlt : i < L.length
    · have p0 : (0 : Int) ≤ (i : Int) := by omega
      have q0 : (i : Int) < (L.length : Int) := by omega
      obtain ⟨ad, e0, hx0, hx1, hx2, hx3⟩ := at_T65 HC.out i p0 q0
      cases e0
      simp only [Int.toNat_natCast] at hx0 hx1 hx2 hx3
      have HS := Lib.hid (sumJ_take hlt)
      have b1 := sumJ_bnd HBD.out i
      have b2 := sumJ_bnd HBD.out (i + 1)
      rw [HS.out] at b2
      obtain ⟨b1, b1'⟩ := b1
      obtain ⟨b2, b2'⟩ := b2
      generalize hs : sumJ (L.take i) = s at *
      generalize hy : rd_T65 L (i : Int) = y at *
      have b3 : s + y.f3 ≤ 9000000000000000 := by omega
      have b4 : 0 ≤ y.f3 := by have := (HBD.out y (by rw [← hy]; simp [rd_T65, hlt])).1; exact this
      clear hs hy b1' b2'
      go_wp2
      go_roundg (L.length - i)
      case measure => omega
      case rel => exact ⟨i + 1, by go_num, by rw [HS.out], by omega, by omega, rfl⟩
    · obtain rfl : i = L.length := by omega
      have HT : Hid (L.take L.length = L) := Lib.hid (List.take_length)
      rw [HT.out]
      go_wp2
      go_ret
      exact ⟨rfl, rfl⟩
set_option maxHeartbeats 8000000 in
set_option maxRecDepth 100000 in
theorem rdrop.calls (hb : Nat) (L : List S65) (w : World) (h : RfJ w hb L) (hl : L.length ≤ 1000000) : Calls Try.prog 62 #[.pointer (some ⟨hb, 0, none⟩)] w fun e w' => ∃ A c, e = .returned (.slice A L.length c) ∧ L.length ≤ c ∧ RwJ w' A L ∧ RfJ w' hb [] ∧ w.grownBy w' (some hb) := by
  obtain ⟨A, c, h1, h2, h3⟩ := h
  have c0 : w.cell? ⟨hb, 0, none⟩ = some (.slice A L.length c) := (blk_cell h1 0).trans rfl
  have f0 := blk_frozen h1 0
  have H1 := Lib.hid h1
  have H3 := Lib.hid h3
  clear h1 h3
  go_enter Try.func62, Try.ntmps62
  go_wp2
  go_ret
  exact ⟨A, c, rfl, h2, H3.out.keep fun q cs hq => blk_off hq (ne_type hq H1.out (by decide)) 0 _, rf_set (L := []) H1.out (Nat.le_refl _) (.inl rfl), PxR.grown_set w ⟨hb, 0, none⟩ _⟩
theorem filt_take {now : Int} {L : List S65} {i : Nat} (h : i < L.length) : (L.take (i + 1)).filter (fun y => decide (y.f2 ≤ now)) = (L.take i).filter (fun y => decide (y.f2 ≤ now)) ++ (if (rd_T65 L i).f2 ≤ now then [rd_T65 L i] else []) := by
  rw [take_rd h, List.filter_append, List.filter_cons]
  by_cases hn : (rd_T65 L (i : Int)).f2 ≤ now
  · rw [if_pos (by simpa using hn), if_pos hn]; rfl
  · rw [if_neg (by simpa using hn), if_neg hn]; rfl
theorem filt_len {now : Int} {L : List S65} (i : Nat) : ((L.take i).filter (fun y => decide (y.f2 ≤ now))).length ≤ i := Nat.le_trans (List.length_filter_le _ _) (List.length_take_le _ _)
set_option maxHeartbeats 8000000 in
set_option maxRecDepth 100000 in
theorem rlate.calls (hb : Nat) (now : Int) (L : List S65) (w : World) (h : RfJ w hb L) (hl : L.length < 900000) : Calls Try.prog 65 #[.pointer (some ⟨hb, 0, none⟩), .int .i64 now] w fun e w' => ∃ v : Value, e = .returned v ∧ Kd.R k65 65 w' w.heap.size (fun _ => True) v (L.filter (fun y => decide (y.f2 ≤ now))) ∧ Below w.heap.size w w' := by
  obtain ⟨A, c, c0, _, _, hC⟩ := rf_cell h (by omega)
  have HC := Lib.hid hC
  have HC0 := Lib.hid c0
  clear h hC
  go_enter Try.func65, Try.ntmps65
  go_wp2
  clear c0
  go_loopg [5, 6] (L.length + 1) (fun k v5 v6 wr => ∃ i : Nat, v6 = .int .i64 i ∧ i ≤ L.length ∧ L.length - i < k ∧ Hid (wr.ownsRow w.heap.size 65 4 v5 ((L.take i).filter (fun y => decide (y.f2 ≤ now))).length (((L.take i).filter (fun y => decide (y.f2 ≤ now))).flatMap jcl)) ∧ Hid (Below w.heap.size w wr))
  case atStart => exact ⟨0, rfl, by omega, by omega, Lib.hid ⟨by simp, .inl ⟨rfl, rfl⟩⟩, Lib.hid (Below.refl _ _)⟩
  case round =>
    obtain ⟨i, rfl, hi, hk, HO, HB⟩ := hrel
    have c0 := (HB.out.cell (World.block_lt_of_cell? w _ HC0.out)).trans HC0.out
    by_cases hlt : i < L.length
    · have p0 : (0 : Int) ≤ (i : Int) := by omega
      have q0 : (i : Int) < (L.length : Int) := by omega
      obtain ⟨ad, e0, hx0, hx1, hx2, hx3⟩ := at_T65 HC.out i p0 q0
      cases e0
      replace hx0 := (HB.out.cell (World.block_lt_of_cell? w _ hx0)).trans hx0
      replace hx1 := (HB.out.cell (World.block_lt_of_cell? w _ hx1)).trans hx1
      replace hx2 := (HB.out.cell (World.block_lt_of_cell? w _ hx2)).trans hx2
      replace hx3 := (HB.out.cell (World.block_lt_of_cell? w _ hx3)).trans hx3
      simp only [Int.toNat_natCast] at hx0 hx1 hx2 hx3
      have hft := filt_take (now := now) hlt
      have hfl := filt_len (now := now) (L := L) i
      by_cases hn : (rd_T65 L (i : Int)).f2 ≤ now
      · rw [if_pos hn] at hft
        have HT := Lib.hid hft
        generalize (L.take i).filter (fun y => decide (y.f2 ≤ now)) = M at HO HT hfl
        generalize hy : rd_T65 L (i : Int) = y at *
        clear hy hft
        go_wp2_with (at_builtin; refine print_append_cells (w0 := w) (W := wr) w.heap.size rfl (.tmp 26) (.tmp 34) 60 65 (.agg #[.int .i64 0, .int .i64 0, .int .i64 0, .int .i64 0]) 4 32 rfl Try.underlying60 info65 rfl (by decide) (by decide) _ M.length _ [.int .i64 y.f0, .int .i64 y.f1, .int .i64 y.f2, .int .i64 y.f3] rfl (by rfl) rfl (by simp [Value.oneCell']) HO.out HB.out HB.out.size (by omega) ?_; intro v1 w7 q1 q2 q3 _; have HO7 := Lib.hid q1; have HB7 := Lib.hid q2; clear q1 q2 q3)
        go_roundg (L.length - i)
        case measure => omega
        case rel => exact ⟨i + 1, by go_num, by omega, by omega, Lib.hid (by rw [HT.out, List.flatMap_append, List.length_append]; simpa [jcl] using HO7.out), HB7⟩
      · rw [if_neg hn, List.append_nil] at hft
        have HT := Lib.hid hft
        generalize hy : rd_T65 L (i : Int) = y at *
        clear hy hft
        go_wp2
        go_roundg (L.length - i)
        case measure => omega
        case rel => exact ⟨i + 1, by go_num, by omega, by omega, Lib.hid (by rw [HT.out]; exact HO.out), HB⟩
    · obtain rfl : i = L.length := by omega
      have HT : Hid (L.take L.length = L) := Lib.hid (List.take_length)
      rw [HT.out] at HO
      go_wp2
      go_ret
      exact ⟨_, rfl, jown_R HO.out (Nat.le_refl _), HB.out⟩
/-- A way into an add of the reference's: what was laid so far. -/
def AddR (y : S65) (L : List S65) (i : Nat) (d : Bool) (M : List S65) : Prop := (d = false ∧ M = L.take i ∧ ∀ z ∈ L.take i, jlt y z = false) ∨ (d = true ∧ M ++ L.drop i = Hg.insG jlt y L)
theorem ins_end {y : S65} : ∀ {l : List S65}, (∀ z ∈ l, jlt y z = false) → Hg.insG jlt y l = l ++ [y]
  | [], _ => rfl
  | x :: l, h => by
    unfold Hg.insG
    rw [if_neg (by rw [h x (by simp)]; simp), ins_end (fun z hz => h z (by simp [hz]))]; rfl
theorem ins_split {y z : S65} {m : List S65} (hz : jlt y z = true) : ∀ {l : List S65}, (∀ x ∈ l, jlt y x = false) → Hg.insG jlt y (l ++ z :: m) = l ++ y :: z :: m
  | [], _ => by simp [Hg.insG, hz]
  | x :: l, h => by
    rw [List.cons_append]
    unfold Hg.insG
    rw [if_neg (by rw [h x (by simp)]; simp), ins_split hz (fun u hu => h u (by simp [hu]))]; rfl
theorem drop_rd {L : List S65} {i : Nat} (h : i < L.length) : L.drop i = rd_T65 L i :: L.drop (i + 1) := by
  rw [List.drop_eq_getElem_cons h]; simp [rd_T65, h]
theorem addR_put {y : S65} {L M : List S65} {i : Nat} (hi : i < L.length) (h : AddR y L i false M) (hl : jlt y (rd_T65 L i) = true) : AddR y L (i + 1) true ((M ++ [y]) ++ [rd_T65 L i]) := by
  rcases h with ⟨_, rfl, h2⟩ | ⟨h, _⟩
  · refine .inr ⟨rfl, ?_⟩
    have e : L = L.take i ++ rd_T65 L i :: L.drop (i + 1) := by rw [← drop_rd hi]; exact (List.take_append_drop i L).symm
    have hs := ins_split (m := L.drop (i + 1)) hl h2
    rw [← e] at hs
    rw [hs]; simp
  · cases h
theorem addR_go {y : S65} {L M : List S65} {i : Nat} {d : Bool} (hi : i < L.length) (h : AddR y L i d M) (hl : d = true ∨ jlt y (rd_T65 L i) = false) : AddR y L (i + 1) d (M ++ [rd_T65 L i]) := by
  rcases h with ⟨rfl, rfl, h2⟩ | ⟨rfl, h2⟩
  · rcases hl with h | h
    · cases h
    · refine .inl ⟨rfl, (take_rd hi).symm, fun z hz => ?_⟩
      rw [take_rd hi] at hz
      rcases List.mem_append.1 hz with hz | hz
      · exact h2 z hz
      · rw [List.mem_singleton.1 hz]; exact h
  · refine .inr ⟨rfl, ?_⟩
    rw [← h2, drop_rd hi]; simp
theorem addR_len {y : S65} {L M : List S65} {i : Nat} (h : AddR y L i false M) : M.length ≤ i := by
  rcases h with ⟨_, rfl, _⟩ | ⟨h, _⟩
  · exact List.length_take_le _ _
  · cases h
theorem addR_done {y : S65} {L M : List S65} (h : AddR y L L.length true M) : M = Hg.insG jlt y L := by
  rcases h with ⟨h, _⟩ | ⟨_, h⟩
  · cases h
  · rw [← h]; simp
theorem addR_last {y : S65} {L M : List S65} (h : AddR y L L.length false M) : M ++ [y] = Hg.insG jlt y L := by
  rcases h with ⟨_, rfl, h2⟩ | ⟨h, _⟩
  · rw [List.take_length] at h2 ⊢
    exact (ins_end h2).symm
  · cases h
set_option maxHeartbeats 8000000 in
set_option maxRecDepth 100000 in
theorem radd_bad.calls (hb : Nat) (y : S65) (w : World) (hm : jmay y = false) : Calls Try.prog 63 #[.pointer (some ⟨hb, 0, none⟩), .agg #[.int .i64 y.f0, .int .i64 y.f1, .int .i64 y.f2, .int .i64 y.f3]] w fun e w' => e = .returned (.int .i64 1) ∧ Below w.heap.size w w' := by
  have HM := Lib.hid hm
  clear hm
  by_cases c0 : y.f3 < 1
  · go_enter Try.func63, Try.ntmps63
    go_wp2
    go_ret
    exact ⟨rfl, below_alloc (Below.refl _ _) _⟩
  · by_cases c1 : y.f3 > 2147483648
    · go_enter Try.func63, Try.ntmps63
      go_wp2
      go_ret
      exact ⟨rfl, below_alloc (Below.refl _ _) _⟩
    · by_cases c2 : y.f1 < 0
      · go_enter Try.func63, Try.ntmps63
        go_wp2
        go_ret
        exact ⟨rfl, below_alloc (Below.refl _ _) _⟩
      · by_cases c3 : y.f1 > 1099511627776
        · go_enter Try.func63, Try.ntmps63
          go_wp2
          go_ret
          exact ⟨rfl, below_alloc (Below.refl _ _) _⟩
        · by_cases c4 : y.f2 ≤ y.f1
          · go_enter Try.func63, Try.ntmps63
            go_wp2
            go_ret
            exact ⟨rfl, below_alloc (Below.refl _ _) _⟩
          · by_cases c5 : y.f2 > 2199023255552
            · go_enter Try.func63, Try.ntmps63
              go_wp2
              go_ret
              exact ⟨rfl, below_alloc (Below.refl _ _) _⟩
            · exact absurd HM.out (by unfold jmay; simp; omega)
theorem may_parts {y : S65} (hm : jmay y = true) : (¬ y.f3 < 1) ∧ (¬ y.f3 > 2147483648) ∧ (¬ y.f1 < 0) ∧ (¬ y.f1 > 1099511627776) ∧ (¬ y.f2 ≤ y.f1) ∧ ¬ y.f2 > 2199023255552 := by
  unfold jmay at hm
  simp only [Bool.and_eq_true, decide_eq_true_eq] at hm
  omega
set_option maxHeartbeats 8000000 in
set_option maxRecDepth 100000 in
theorem radd_there.calls (hb : Nat) (y : S65) (L : List S65) (w : World) (h : RfJ w hb L) (hm : jmay y = true) (hi : y.f0 ∈ ids L) (hl : L.length ≤ 1000000) : Calls Try.prog 63 #[.pointer (some ⟨hb, 0, none⟩), .agg #[.int .i64 y.f0, .int .i64 y.f1, .int .i64 y.f2, .int .i64 y.f3]] w fun e w' => e = .returned (.int .i64 14) ∧ Below w.heap.size w w' := by
  obtain ⟨c0, c1, c2, c3, c4, c5⟩ := may_parts hm
  have hbh : hasB y.f0 L = true := decide_eq_true hi
  have HH := Lib.hid (rhas.calls hb y.f0 L (w.alloc (.cells #[.int .i64 y.f0, .int .i64 y.f1, .int .i64 y.f2, .int .i64 y.f3] 65)) (h.below (below_alloc (Below.refl _ _) _)) hl)
  rw [hbh] at HH
  clear h hm hi hbh
  go_enter Try.func63, Try.ntmps63
  go_wp2_with (go_at_call 68; refine HH.out.mono ?_; rintro e w3 ⟨rfl, rfl⟩)
  go_ret
  exact ⟨rfl, below_alloc (Below.refl _ _) _⟩
def radd.T11 : Bool × List (List Nat × List Nat) := (true, [([], []), ([], []), ([1], [1]), ([2], [2]), ([3], [3]), ([], []), ([4, 5], [4, 5]), ([6], [6]), ([0, 7], [0, 7]), ([8, 8, 0, 1, 2, 3, 4, 5, 6, 7, 8], [8])])
def radd.B11 : List Nat := [0, 0, 2, 6, 14, 0, 62, 126, 255, 511]
theorem radd.tab11 : rtab .any (opsOf Try.f63 11) = radd.T11 := by kernel_rfl
theorem radd.bits11 : waitsOk radd.T11.2 radd.B11 = true := by kernel_rfl
theorem own_snoc {W : World} {base : Nat} {v : Value} {M : List S65} {y : S65} (h : W.ownsRow base 65 4 v (M.length + 1) (M.flatMap jcl ++ [.int .i64 y.f0, .int .i64 y.f1, .int .i64 y.f2, .int .i64 y.f3])) : W.ownsRow base 65 4 v (M ++ [y]).length ((M ++ [y]).flatMap jcl) := by
  rw [List.flatMap_append, List.length_append]
  simpa [jcl] using h
set_option maxHeartbeats 8000000 in
set_option maxRecDepth 100000 in
theorem radd.calls (hb : Nat) (y : S65) (L : List S65) (w : World) (h : RfJ w hb L) (hm : jmay y = true) (hi : y.f0 ∉ ids L) (hl : L.length < 900000) : Calls Try.prog 63 #[.pointer (some ⟨hb, 0, none⟩), .agg #[.int .i64 y.f0, .int .i64 y.f1, .int .i64 y.f2, .int .i64 y.f3]] w fun e w' => e = .returned (.int .i64 0) ∧ RfJ w' hb (Hg.insG jlt y L) ∧ w.grownBy w' (some hb) := by
  obtain ⟨k0, k1, k2, k3, k4, k5⟩ := may_parts hm
  have hbh : hasB y.f0 L = false := decide_eq_false hi
  have hba := below_alloc (Below.refl w.heap.size w) (.cells #[.int .i64 y.f0, .int .i64 y.f1, .int .i64 y.f2, .int .i64 y.f3] 65)
  have HH := Lib.hid (rhas.calls hb y.f0 L (w.alloc (.cells #[.int .i64 y.f0, .int .i64 y.f1, .int .i64 y.f2, .int .i64 y.f3] 65)) (h.below hba) (by omega))
  rw [hbh] at HH
  have HR := Lib.hid (h.below hba)
  have HJ1 := Lib.hid (heap_alloc_new w (.cells #[.int .i64 y.f0, .int .i64 y.f1, .int .i64 y.f2, .int .i64 y.f3] 65))
  have HBA := Lib.hid hba
  clear h hm hi hbh hba
  go_enter Try.func63, Try.ntmps63
  go_wp2_with (go_at_call 68; refine HH.out.mono ?_; rintro e w3 ⟨rfl, rfl⟩)
  clear k0 k1 k2 k3 k4 k5 HH
  obtain ⟨W1, hW1⟩ : ∃ W, w.alloc (.cells #[.int .i64 y.f0, .int .i64 y.f1, .int .i64 y.f2, .int .i64 y.f3] 65) = W := ⟨_, rfl⟩
  rw [hW1] at HR HJ1 HBA ⊢
  clear hW1
  obtain ⟨a0, ha0⟩ : ∃ n, w.heap.size = n := ⟨_, rfl⟩
  rw [ha0] at HJ1 ⊢
  clear ha0
  obtain ⟨A, c, hh1, hh2, hh3⟩ := HR.out
  have HH1 := Lib.hid hh1
  have HC := Lib.hid (rwj_C hh3 (by omega))
  have HC0 : Hid (W1.cell? ⟨hb, 0, none⟩ = some (.slice A L.length c)) := Lib.hid ((blk_cell hh1 0).trans rfl)
  clear hh1 hh2 hh3
  go_loopg [6, 7, 8] (L.length + 1) (fun k v6 v7 v8 wr => ∃ (i : Nat) (d : Bool) (M : List S65), v8 = .int .i64 i ∧ v7 = .bool d ∧ i ≤ L.length ∧ L.length - i < k ∧ Hid (M.length ≤ i + 1) ∧ Hid (AddR y L i d M) ∧ Hid (wr.ownsRow W1.heap.size 65 4 v6 M.length (M.flatMap jcl)) ∧ Hid (Below W1.heap.size W1 wr))
  case atStart => exact ⟨0, false, [], rfl, rfl, by omega, by omega, Lib.hid (by simp), Lib.hid (.inl ⟨rfl, by simp, by simp⟩), Lib.hid ⟨by simp, .inl ⟨rfl, rfl⟩⟩, Lib.hid (Below.refl _ _)⟩
  case round =>
    obtain ⟨i, d, M, rfl, rfl, hi, hk, HML, HAR, HO, HB⟩ := hrel
    have c0 := (HB.out.cell (World.block_lt_of_cell? W1 _ HC0.out)).trans HC0.out
    have HJ := Lib.hid (blk_below HJ1.out HB.out)
    by_cases hlt : i < L.length
    · have p0 : (0 : Int) ≤ (i : Int) := by omega
      have q0 : (i : Int) < (L.length : Int) := by omega
      obtain ⟨ad, e0, hx0, hx1, hx2, hx3⟩ := at_T65 HC.out i p0 q0
      cases e0
      simp only [Int.toNat_natCast] at hx0 hx1 hx2 hx3
      have HX0 := Lib.hid hx0
      replace hx0 := (HB.out.cell (World.block_lt_of_cell? W1 _ HX0.out)).trans HX0.out
      have HX1 := Lib.hid hx1
      replace hx1 := (HB.out.cell (World.block_lt_of_cell? W1 _ HX1.out)).trans HX1.out
      have HX2 := Lib.hid hx2
      replace hx2 := (HB.out.cell (World.block_lt_of_cell? W1 _ HX2.out)).trans HX2.out
      have HX3 := Lib.hid hx3
      replace hx3 := (HB.out.cell (World.block_lt_of_cell? W1 _ HX3.out)).trans HX3.out
      have HLT := Lib.hid hlt
      have HPUT := Lib.hid (fun (hd : d = false) (hj : jlt y (rd_T65 L i) = true) => addR_put (M := M) hlt (hd ▸ HAR.out) hj)
      have HGO := Lib.hid (fun (hj : d = true ∨ jlt y (rd_T65 L i) = false) => addR_go hlt HAR.out hj)
      generalize hz : rd_T65 L (i : Int) = z at *
      clear hz hlt
      go_wp2
      replace HJ := Lib.hid (blk_drew HJ.out)
      replace HO := Lib.hid (PxR.own_below HO.out (below_drew (Below.refl _ _)))
      replace HB := Lib.hid (below_drew1 HB.out)
      replace c0 : wr.drew.cell? _ = _ := c0
      replace hx0 : wr.drew.cell? _ = _ := hx0
      replace hx1 : wr.drew.cell? _ = _ := hx1
      replace hx2 : wr.drew.cell? _ = _ := hx2
      replace hx3 : wr.drew.cell? _ = _ := hx3
      refine start_ (n := 10) (S := fun w' => w'.cell? ⟨a0, 0, none⟩ = some (.int .i64 y.f0) ∧ w'.cell? ⟨a0, 1, none⟩ = some (.int .i64 y.f1) ∧ w'.cell? ⟨a0, 2, none⟩ = some (.int .i64 y.f2) ∧ w'.cell? ⟨a0, 3, none⟩ = some (.int .i64 y.f3) ∧ w'.cell? ⟨hb, 0, none⟩ = some (.slice (some ad) L.length c) ∧ w'.cell? (ad.add (i * 4)) = some (.int .i64 z.f0) ∧ w'.cell? ⟨(ad.add (i * 4)).block, (ad.add (i * 4)).off + 1, none⟩ = some (.int .i64 z.f1) ∧ w'.cell? ⟨(ad.add (i * 4)).block, (ad.add (i * 4)).off + 2, none⟩ = some (.int .i64 z.f2) ∧ w'.cell? ⟨(ad.add (i * 4)).block, (ad.add (i * 4)).off + 3, none⟩ = some (.int .i64 z.f3)) (ds := []) #[false, false, false, false, false, false, false, false, false, false] (by kernel_rfl) rfl rfl ⟨(blk_cell HJ.out 0).trans rfl, (blk_cell HJ.out 1).trans rfl, (blk_cell HJ.out 2).trans rfl, (blk_cell HJ.out 3).trans rfl, c0, hx0, hx1, hx2, hx3⟩ (fun hHeld => ?_); refine with_tabW radd.tab11 radd.bits11 (fun HT_ HW_ => ?_)
      generalize wr.drew = w5 at HJ HO HB c0 hx0 hx1 hx2 hx3 hHeld ⊢
      refine take_ (i := 0) (N := some 54) (v := ?_) (a' := ?_) #[true, false, false, false, false, false, false, false, false, false] rfl rfl (take_ofW HT_.out HW_.out (by kernel_rfl)) (fun _ _ _ h => h) (Or.inl ⟨by rfl, ?_⟩) hHeld ?_ ?_
      rotate_left
      · rintro w' ⟨s0, s1, s2, s3, s4, s5, s6, s7, s8⟩
        go_simp
        with_reducible rfl
      rotate_left
      · simp only [Act.put, List.setIfInBounds_toArray, List.set_cons_zero, List.set_cons_succ, i64_w, i32_w]
        rfl
      refine pure_ (i := 1) (N := some 55) (v := ?_) (a' := ?_) #[true, true, false, false, false, false, false, false, false, false] rfl rfl (any_of HT_.out (by kernel_rfl)) (fun _ _ _ h => h) (Or.inl ⟨by rfl, ?_⟩) ?_ ?_
      rotate_left
      · intro w'
        go_simp
        with_reducible rfl
      rotate_left
      · simp only [Act.put, List.setIfInBounds_toArray, List.set_cons_zero, List.set_cons_succ, i64_w, i32_w]
        rfl
      refine pure_ (i := 2) (N := some 56) (v := ?_) (a' := ?_) #[true, true, true, false, false, false, false, false, false, false] rfl rfl (any_of HT_.out (by kernel_rfl)) (fun _ _ _ h => h) (Or.inl ⟨by rfl, ?_⟩) ?_ ?_
      rotate_left
      · intro w'
        go_simp
        with_reducible rfl
      rotate_left
      · simp only [Act.put, List.setIfInBounds_toArray, List.set_cons_zero, List.set_cons_succ, i64_w, i32_w]
        rfl
      refine pure_ (i := 3) (N := some 57) (v := ?_) (a' := ?_) #[true, true, true, true, false, false, false, false, false, false] rfl rfl (any_of HT_.out (by kernel_rfl)) (fun _ _ _ h => h) (Or.inl ⟨by rfl, ?_⟩) ?_ ?_
      rotate_left
      · intro w'
        go_simp
        with_reducible rfl
      rotate_left
      · simp only [Act.put, List.setIfInBounds_toArray, List.set_cons_zero, List.set_cons_succ, i64_w, i32_w]
        rfl
      refine take_ (i := 4) (N := some 58) (v := ?_) (a' := ?_) #[true, true, true, true, true, false, false, false, false, false] rfl rfl (take_ofW HT_.out HW_.out (by kernel_rfl)) (fun _ _ _ h => h) (Or.inl ⟨by rfl, ?_⟩) hHeld ?_ ?_
      rotate_left
      · rintro w' ⟨s0, s1, s2, s3, s4, s5, s6, s7, s8⟩
        go_simp
        with_reducible rfl
      rotate_left
      · simp only [Act.put, List.setIfInBounds_toArray, List.set_cons_zero, List.set_cons_succ, i64_w, i32_w]
        rfl
      refine pure_ (i := 5) (N := some 59) (v := ?_) (a' := ?_) #[true, true, true, true, true, true, false, false, false, false] rfl rfl (any_of HT_.out (by kernel_rfl)) (fun _ _ _ h => h) (Or.inl ⟨by rfl, ?_⟩) ?_ ?_
      rotate_left
      · intro w'
        go_simp
        with_reducible rfl
      rotate_left
      · simp only [Act.put, List.setIfInBounds_toArray, List.set_cons_zero, List.set_cons_succ, i64_w, i32_w]
        rfl
      refine pure_ (i := 6) (N := some 60) (v := ?_) (a' := ?_) #[true, true, true, true, true, true, true, false, false, false] rfl rfl (any_of HT_.out (by kernel_rfl)) (fun _ _ _ h => h) (Or.inl ⟨by rfl, ?_⟩) ?_ ?_
      rotate_left
      · intro w'
        go_simp
        with_reducible rfl
      rotate_left
      · simp only [Act.put, List.setIfInBounds_toArray, List.set_cons_zero, List.set_cons_succ, i64_w, i32_w]
        rfl
      refine take_ (i := 7) (N := some 61) (v := ?_) (a' := ?_) #[true, true, true, true, true, true, true, true, false, false] rfl rfl (take_ofW HT_.out HW_.out (by kernel_rfl)) (fun _ _ _ h => h) (Or.inl ⟨by rfl, ?_⟩) hHeld ?_ ?_
      rotate_left
      · rintro w' ⟨s0, s1, s2, s3, s4, s5, s6, s7, s8⟩
        go_simp
        with_reducible rfl
      rotate_left
      · simp only [Act.put, List.setIfInBounds_toArray, List.set_cons_zero, List.set_cons_succ, i64_w, i32_w]
        rfl
      refine one_ (i := 8) (N := some 62) #[true, true, true, true, true, true, true, true, true, false] rfl rfl (one_of HT_.out (by kernel_rfl)) (by decide) (fun K hK => ?_)
      refine goes_ Try.func98 (by kernel_rfl) rfl #[.agg #[.int .i64 y.f0, .int .i64 y.f1, .int .i64 y.f2, .int .i64 y.f3], .agg #[.int .i64 z.f0, .int .i64 z.f1, .int .i64 z.f2, .int .i64 z.f3]] (by rfl) rfl rfl (by (try simp only [List.map_toArray, List.map_cons, List.map_nil]); first | done | rfl) ?_
      refine (rahead.calls y z w5).mono ?_
      rintro e w6 ⟨rfl, q1⟩
      refine ⟨_, rfl, ?_⟩
      replace HJ := Lib.hid (blk_below HJ.out q1)
      replace HO := Lib.hid (PxR.own_below HO.out q1)
      replace HB := Lib.hid (below_step HB.out q1)
      replace c0 := (q1.cell (World.block_lt_of_cell? w5 _ c0)).trans c0
      replace hx0 := (q1.cell (World.block_lt_of_cell? w5 _ hx0)).trans hx0
      replace hx1 := (q1.cell (World.block_lt_of_cell? w5 _ hx1)).trans hx1
      replace hx2 := (q1.cell (World.block_lt_of_cell? w5 _ hx2)).trans hx2
      replace hx3 := (q1.cell (World.block_lt_of_cell? w5 _ hx3)).trans hx3
      clear q1
      refine hK.out _ _ ⟨(blk_cell HJ.out 0).trans rfl, (blk_cell HJ.out 1).trans rfl, (blk_cell HJ.out 2).trans rfl, (blk_cell HJ.out 3).trans rfl, c0, hx0, hx1, hx2, hx3⟩ (fun hHeld => ?_)
      clear hK K
      refine norm_ (a' := ?_) ?_ ?_
      rotate_left
      · show Act.put _ (some 62) _ = _
        simp only [Act.put, List.setIfInBounds_toArray, List.set_cons_zero, List.set_cons_succ, i64_w, i32_w]
        rfl
      refine pure_ (i := 9) (N := some 9) (v := ?_) (a' := ?_) #[true, true, true, true, true, true, true, true, true, true] rfl rfl (any_of HT_.out (by kernel_rfl)) (fun _ _ _ h => h) (Or.inl ⟨by rfl, ?_⟩) ?_ ?_
      rotate_left
      · intro w'
        go_simp
        with_reducible rfl
      rotate_left
      · simp only [Act.put, List.setIfInBounds_toArray, List.set_cons_zero, List.set_cons_succ, i64_w, i32_w]
        rfl
      refine done_ (done_of HT_.out (by kernel_rfl)) ?_
      clear hHeld
      clear hHeld
      have HIK := Lib.hid hk
      cases d with
      | true =>
        go_wp2_with (at_builtin; (refine print_append_cells (w0 := W1)  W1.heap.size rfl (.tmp 72) (.tmp 80) 60 65 (.agg #[.int .i64 0, .int .i64 0, .int .i64 0, .int .i64 0]) 4 32 rfl Try.underlying60 info65 rfl (by decide) (by decide) _ M.length _ [.int .i64 z.f0, .int .i64 z.f1, .int .i64 z.f2, .int .i64 z.f3] rfl (by rfl) rfl (by simp [Value.oneCell']) HO.out HB.out HB.out.size (by have := HML.out; omega) ?_; intro v1 w7 q1 q2 q3 _; replace HO := Lib.hid (own_snoc q1); replace HB := Lib.hid q2; clear q1 q2 q3))
        go_roundg (L.length - i)
        case measure => omega
        case rel => exact ⟨i + 1, true, M ++ [z], by go_num, rfl, by omega, by omega, Lib.hid (by rw [List.length_append]; have := HML.out; simp; omega), Lib.hid (HGO.out (by simp)), HO, HB⟩
      | false =>
        obtain ⟨b, hjl⟩ : ∃ b, jlt y z = b := ⟨_, rfl⟩
        rw [hjl] at HPUT HGO ⊢
        clear hjl
        have HTL := Lib.hid (addR_len HAR.out)
        cases b with
        | true =>
          have j0 := (blk_cell HJ.out 0).trans rfl
          have j1 := (blk_cell HJ.out 1).trans rfl
          have j2 := (blk_cell HJ.out 2).trans rfl
          have j3 := (blk_cell HJ.out 3).trans rfl
          go_wp2_with (at_builtin; first | (refine print_append_cells (w0 := W1)  W1.heap.size rfl (.tmp 68) (.tmp 70) 60 65 (.agg #[.int .i64 0, .int .i64 0, .int .i64 0, .int .i64 0]) 4 32 rfl Try.underlying60 info65 rfl (by decide) (by decide) _ M.length _ [.int .i64 y.f0, .int .i64 y.f1, .int .i64 y.f2, .int .i64 y.f3] rfl (by rfl) rfl (by simp [Value.oneCell']) HO.out HB.out HB.out.size (by have := HML.out; omega) ?_; intro v1 w7 q1 q2 q3 _; have HML2 := Lib.hid (show (M ++ [y]).length ≤ i + 1 by rw [List.length_append]; have := HTL.out; simp; omega); have HO2 := Lib.hid (own_snoc q1); have HB2 := Lib.hid q2; replace c0 := (q2.cell (World.block_lt_of_cell? W1 _ HC0.out)).trans HC0.out; replace hx0 := (q2.cell (World.block_lt_of_cell? W1 _ HX0.out)).trans HX0.out; replace hx1 := (q2.cell (World.block_lt_of_cell? W1 _ HX1.out)).trans HX1.out; replace hx2 := (q2.cell (World.block_lt_of_cell? W1 _ HX2.out)).trans HX2.out; replace hx3 := (q2.cell (World.block_lt_of_cell? W1 _ HX3.out)).trans HX3.out; clear q1 q2 q3) | (refine print_append_cells (w0 := W1)  W1.heap.size rfl (.tmp 72) (.tmp 80) 60 65 (.agg #[.int .i64 0, .int .i64 0, .int .i64 0, .int .i64 0]) 4 32 rfl Try.underlying60 info65 rfl (by decide) (by decide) _ (M ++ [y]).length _ [.int .i64 z.f0, .int .i64 z.f1, .int .i64 z.f2, .int .i64 z.f3] rfl (by rfl) rfl (by simp [Value.oneCell']) HO2.out HB2.out HB2.out.size (by have := HML2.out; omega) ?_; intro v1 w7 q1 q2 q3 _; have HO3 := Lib.hid (own_snoc q1); have HB3 := Lib.hid q2; clear q1 q2 q3))
          go_roundg (L.length - i)
          case measure => omega
          case rel => exact ⟨i + 1, true, (M ++ [y]) ++ [z], by go_num, rfl, by omega, by omega, Lib.hid (by have h2 := HML2.out; rw [List.length_append]; simp only [List.length_cons, List.length_nil]; omega), Lib.hid (HPUT.out (by simp) (by simp)), HO3, HB3⟩
        | false =>
          go_wp2_with (at_builtin; (refine print_append_cells (w0 := W1)  W1.heap.size rfl (.tmp 72) (.tmp 80) 60 65 (.agg #[.int .i64 0, .int .i64 0, .int .i64 0, .int .i64 0]) 4 32 rfl Try.underlying60 info65 rfl (by decide) (by decide) _ M.length _ [.int .i64 z.f0, .int .i64 z.f1, .int .i64 z.f2, .int .i64 z.f3] rfl (by rfl) rfl (by simp [Value.oneCell']) HO.out HB.out HB.out.size (by have := HML.out; omega) ?_; intro v1 w7 q1 q2 q3 _; replace HO := Lib.hid (own_snoc q1); replace HB := Lib.hid q2; clear q1 q2 q3))
          go_roundg (L.length - i)
          case measure => omega
          case rel => exact ⟨i + 1, false, M ++ [z], by go_num, rfl, by omega, by omega, Lib.hid (by rw [List.length_append]; have := HML.out; simp; omega), Lib.hid (HGO.out (by simp)), HO, HB⟩
    · obtain rfl : i = L.length := by omega
      have h1r := blk_below HH1.out HB.out
      cases d with
      | true =>
        have hM := addR_done HAR.out
        subst hM
        obtain ⟨A2, c2, hv, hc2, hr2⟩ := rwj_own HO.out
        subst hv
        have H1 := Lib.hid h1r
        have f0 := blk_frozen h1r 0
        have HR2 := Lib.hid hr2
        clear h1r hr2
        go_wp2
        go_ret
        exact ⟨rfl, rf_set H1.out hc2 HR2.out, (grown_of_below (below_step HBA.out HB.out) (some hb)).trans (PxR.grown_set wr ⟨hb, 0, none⟩ _)⟩
      | false =>
        have HM := Lib.hid (addR_last HAR.out)
        clear h1r
        have j0 := (blk_cell HJ.out 0).trans rfl
        have j1 := (blk_cell HJ.out 1).trans rfl
        have j2 := (blk_cell HJ.out 2).trans rfl
        have j3 := (blk_cell HJ.out 3).trans rfl
        go_wp2_with (at_builtin; (refine print_append_cells (w0 := W1)  W1.heap.size rfl (.tmp 84) (.tmp 86) 60 65 (.agg #[.int .i64 0, .int .i64 0, .int .i64 0, .int .i64 0]) 4 32 rfl Try.underlying60 info65 rfl (by decide) (by decide) _ M.length _ [.int .i64 y.f0, .int .i64 y.f1, .int .i64 y.f2, .int .i64 y.f3] rfl (by rfl) rfl (by simp [Value.oneCell']) HO.out HB.out HB.out.size (by have := HML.out; omega) ?_; intro v1 w7 q1 q2 q3 _; have hos := own_snoc q1; rw [HM.out] at hos; obtain ⟨A2, c2, rfl, hc2, hr2⟩ := rwj_own hos; have HC7 := Lib.hid hc2; have HR7 := Lib.hid hr2; have HB7 := Lib.hid q2; have h7 := blk_below HH1.out q2; have c7 : w7.cell? ⟨hb, 0, none⟩ = some (.slice A L.length c) := (blk_cell h7 0).trans rfl; have f7 := blk_frozen h7 0; have H7 := Lib.hid h7; clear hos hc2 hr2 h7; clear q1 q2 q3))
        go_ret
        exact ⟨rfl, rf_set H7.out HC7.out HR7.out, (grown_of_below (below_step HBA.out HB7.out) (some hb)).trans (PxR.grown_set w7 ⟨hb, 0, none⟩ _)⟩
def rrun.T5 : Bool × List (List Nat × List Nat) := (true, [([], []), ([0], [0]), ([1], [1]), ([2], [2]), ([], []), ([4], [4]), ([5], [5]), ([6], [6]), ([7], [7]), ([3, 8], [3, 8]), ([], []), ([10, 9, 0, 1, 2, 3, 4, 5, 6, 7, 8, 9, 10], [9, 10])])
def rrun.B5 : List Nat := [0, 1, 3, 7, 0, 16, 48, 112, 240, 511, 0, 2047]
theorem rrun.tab5 : rtab .any (opsOf Try.f59 5) = rrun.T5 := by kernel_rfl
theorem rrun.bits5 : waitsOk rrun.T5.2 rrun.B5 = true := by kernel_rfl
theorem own_empty (W : World) : (W.alloc (.cells #[] 65)).ownsRow W.heap.size 65 4 (.slice (some ⟨W.heap.size, 0, none⟩) 0 0) 0 [] :=
  ⟨by simp, .inr ⟨W.heap.size, 0, #[], rfl, Nat.le_refl _, heap_alloc_new W _, Nat.le_refl _, Nat.zero_le _, rfl, rfl⟩⟩
theorem flat_inv : ∀ (L : List S65) (j : Nat) (u : Value), (L.flatMap jcl)[j]? = some u → ∃ p, L[j / 4]? = some p ∧ (jcl p)[j % 4]? = some u
  | [], j, u, h => by simp at h
  | x :: L, j, u, h => by
    rw [List.flatMap_cons] at h
    by_cases hj : j < 4
    · rw [List.getElem?_append_left (by simpa [jcl] using hj)] at h
      exact ⟨x, by rw [Nat.div_eq_of_lt hj]; rfl, by rw [Nat.mod_eq_of_lt hj]; exact h⟩
    · rw [List.getElem?_append_right (by simp [jcl]; omega)] at h
      obtain ⟨p, h1, h2⟩ := flat_inv L _ u h
      have e : j - (jcl x).length = j - 4 := rfl
      rw [e] at h1 h2
      refine ⟨p, ?_, ?_⟩
      · rw [show j / 4 = (j - 4) / 4 + 1 by omega]; simpa using h1
      · rw [show j % 4 = (j - 4) % 4 by omega]; exact h2
theorem add_at (b o j : Nat) : (⟨b, o, none⟩ : Addr).add j = ⟨b, o + j, none⟩ := by unfold Addr.add; split <;> simp_all
theorem rwj_flat {w : World} {b o : Nat} {cells : Array Value} {L : List S65} (hk : w.heap[b]? = some (.cells cells 65 (0, 0))) (hat : ∀ i p, L[i]? = some p → ∀ j u, (jcl p)[j]? = some u → cells[o + (i * 4 + j)]? = some u) : ∀ j u, (L.flatMap jcl)[j]? = some u → w.cell? ((⟨b, o, none⟩ : Addr).add j) = some u := by
  intro j u h
  obtain ⟨p, h1, h2⟩ := flat_inv L j u h
  rw [add_at]
  refine (blk_cell hk _).trans ?_
  have := hat _ p h1 _ u h2
  rwa [show j / 4 * 4 + j % 4 = j by omega] at this
theorem flat_one (L : List S65) : ∀ u ∈ L.flatMap jcl, u.oneCell' = true := by
  intro u hu
  obtain ⟨p, _, hp⟩ := List.mem_flatMap.1 hu
  unfold jcl at hp
  simp only [List.mem_cons, List.not_mem_nil, or_false] at hp
  rcases hp with rfl | rfl | rfl | rfl <;> rfl
theorem own_at {cur : Array Value} {n : Nat} {L : List S65} (h : cur.toList.take n = L.flatMap jcl) : ∀ i p, L[i]? = some p → ∀ j u, (jcl p)[j]? = some u → cur[0 + (i * 4 + j)]? = some u := by
  intro i p hp j u hu
  have h1 := flat_at L i p hp j u hu
  rw [← h, List.getElem?_take] at h1
  split at h1
  · rw [Nat.zero_add, ← Array.getElem?_toList]; exact h1
  · cases h1
theorem rwj_less {w : World} {g : Nat} {cur : Array Value} {y0 y1 y2 y3 v : Int} {R : List S65} (hk : w.heap[g]? = some (.cells cur 65 (0, 0))) (hat : ∀ i p, ((⟨y0, y1, y2, y3⟩ : S65) :: R)[i]? = some p → ∀ j u, (jcl p)[j]? = some u → cur[0 + (i * 4 + j)]? = some u) (hs : 4 ≤ cur.size) : RwJ (w.setCell ⟨g, 3, none⟩ (.int .i64 v)) (some ⟨g, 0, none⟩) ((⟨y0, y1, y2, v⟩ : S65) :: R) := by
  refine .inr ⟨g, 0, _, rfl, blk_set hk 3 _, fun i p hp j u hu => ?_⟩
  rw [Array.getElem?_setIfInBounds]
  cases i with
  | zero =>
    simp only [List.getElem?_cons_zero, Option.some.injEq] at hp
    subst hp
    have h0 := hat 0 _ rfl j
    by_cases hj : j = 3
    · subst hj
      have : u = .int .i64 v := by simpa [jcl] using hu.symm
      subst this
      simp; omega
    · rw [if_neg (by omega)]
      refine h0 u ?_
      have hj4 : j < 4 := (List.getElem?_eq_some_iff.1 hu).1
      have : j = 0 ∨ j = 1 ∨ j = 2 := by omega
      rcases this with rfl | rfl | rfl <;> simpa [jcl] using hu
  | succ i =>
    rw [if_neg (by omega)]
    exact hat (i + 1) p (by simpa using hp) j u hu
theorem rwj_03 {w : World} {g : Nat} {y0 y1 y2 y3 : Int} {R : List S65} (h : RwJ w (some ⟨g, 0, none⟩) ((⟨y0, y1, y2, y3⟩ : S65) :: R)) : w.cell? ⟨g, 0, none⟩ = some (.int .i64 y0) ∧ w.cell? ⟨g, 3, none⟩ = some (.int .i64 y3) := by
  rcases h with h | ⟨b, o, cells, h1, h2, h3⟩
  · cases h
  · cases h1
    exact ⟨(blk_cell h2 0).trans (by have := h3 0 _ rfl 0 _ rfl; simpa using this), (blk_cell h2 3).trans (by have := h3 0 _ rfl 3 _ rfl; simpa using this)⟩
theorem rwj_tail {w : World} {g : Nat} {y : S65} {R : List S65} (h : RwJ w (some ⟨g, 0, none⟩) (y :: R)) : RwJ w (some ⟨g, 4, none⟩) R := by
  rcases h with h | ⟨b, o, cells, h1, h2, h3⟩
  · cases h
  · cases h1
    refine .inr ⟨g, 4, cells, rfl, h2, fun i p hp j u hu => ?_⟩
    have := h3 (i + 1) p (by simpa using hp) j u hu
    rwa [show 0 + ((i + 1) * 4 + j) = 4 + (i * 4 + j) by omega] at this
set_option maxHeartbeats 8000000 in
set_option maxRecDepth 100000 in
theorem rrun_none.calls (hb : Nat) (w : World) (h : RfJ w hb []) : Calls Try.prog 59 #[.pointer (some ⟨hb, 0, none⟩)] w fun e w' => e = .returned (.agg #[.int .i64 (-1), .bool false]) ∧ Below w.heap.size w w' := by
  obtain ⟨A, c, h1, _, _⟩ := h
  have c0 : (w.alloc (.cells #[.int .i64 0, .bool false] 73)).cell? ⟨hb, 0, none⟩ = some (.slice A 0 c) := (blk_cell (blk_alloc h1 _) 0).trans rfl
  clear h1
  go_enter Try.func59, Try.ntmps59
  go_wp2
  exact bodyPost_ret (v := .agg #[.int .i64 (-1), .bool false]) (by simp [results, Try.results59, go_sem]) rfl ⟨rfl, below_alloc (Below.refl _ _) _⟩
set_option maxHeartbeats 8000000 in
set_option maxRecDepth 100000 in
theorem rrun_done.calls (hb : Nat) (y0 y1 y2 : Int) (R : List S65) (w : World) (h : RfJ w hb (⟨y0, y1, y2, 1⟩ :: R)) (hl : R.length < 800000) : Calls Try.prog 59 #[.pointer (some ⟨hb, 0, none⟩)] w fun e w' => e = .returned (.agg #[.int .i64 y0, .bool true]) ∧ RfJ w' hb R ∧ w.grownBy w' (some hb) := by
  obtain ⟨A, c, h1', h2', h3'⟩ := h
  rcases h3' with h3' | ⟨b, o, cells, rfl, hbk, hat⟩
  · cases h3'
  have hba := below_alloc (Below.refl w.heap.size w) (.cells #[.int .i64 0, .bool false] 73)
  have HBA := Lib.hid hba
  have HC := Lib.hid (rwj_C (L := (⟨y0, y1, y2, 1⟩ : S65) :: R) (.inr ⟨b, o, cells, rfl, hbk, hat⟩) (by simp; omega))
  have H1 := Lib.hid h1'
  have c0 : (w.alloc (.cells #[.int .i64 0, .bool false] 73)).cell? ⟨hb, 0, none⟩ = some (.slice (some ⟨b, o, none⟩) ((⟨y0, y1, y2, 1⟩ : S65) :: R).length c) := (blk_cell (blk_alloc h1' _) 0).trans rfl
  have hz : ((((⟨y0, y1, y2, 1⟩ : S65) :: R).length : Int) == 0) = false := by rw [beq_eq_false_iff_ne]; simp; omega
  obtain ⟨n, hn⟩ : ∃ n, ((⟨y0, y1, y2, 1⟩ : S65) :: R).length = n := ⟨_, rfl⟩
  have HN := Lib.hid hn
  have hn1 : 0 < n := by simp at hn; omega
  have hn2 : n < 900000 := by simp at hn; omega
  have hlc : n ≤ c := by omega
  rw [hn] at c0 hz HC
  have c1 : ((w.alloc (.cells #[.int .i64 0, .bool false] 73)).alloc (.cells #[] 65)).cell? ⟨hb, 0, none⟩ = some (.slice (some ⟨b, o, none⟩) n c) := by rw [← hn]; exact (blk_cell (blk_alloc (blk_alloc h1' _) _) 0).trans rfl
  obtain ⟨i0, hi0, hz0, hz1, hz2⟩ := info_parts info65
  have HEO := Lib.hid (own_empty (w.alloc (.cells #[.int .i64 0, .bool false] 73)))
  have HNC := Lib.hid (rwj_flat (w := (w.alloc (.cells #[.int .i64 0, .bool false] 73)).alloc (.cells #[] 65)) (blk_alloc (blk_alloc hbk _) _) hat)
  have HZ0 := Lib.hid (blk_alloc (heap_alloc_new w (.cells #[.int .i64 0, .bool false] 73)) (.cells #[] 65))
  have HBB := Lib.hid (below_alloc hba (.cells #[] 65))
  have H1A := Lib.hid (blk_alloc (blk_alloc h1' (.cells #[.int .i64 0, .bool false] 73)) (.cells #[] 65))
  have hbl := blk_lt h1'
  have hn3 : (0 : Int) < (n : Int) := by omega
  have HLN := Lib.hid (by rw [jcl_len, hn] : (((⟨y0, y1, y2, 1⟩ : S65) :: R).flatMap jcl).length = n * 4)
  clear h1' h2' hbk hat hba hl hn
  go_enter Try.func59, Try.ntmps59
  go_wp2_with (
    at_builtin
    refine wpList_append_own _ rfl (.tmp 12) (.tmp 16) 60 rfl (w.heap.size + 1) 65 i0 (.agg #[.int .i64 0, .int .i64 0, .int .i64 0, .int .i64 0]) 4 32 Try.underlying60 hi0 hz0 hz1 hz2 rfl (by decide) (.slice (some ⟨w.heap.size + 1, 0, none⟩) 0 0) 0 [] (by rfl) (by have := HEO.out; simpa using this) ⟨b, o, none⟩ n c (((⟨y0, y1, y2, 1⟩ : S65) :: R).flatMap jcl) (by rfl) HLN.out HNC.out (flat_one _) (by unfold maxLen; omega) (by omega) (by simp) ?_
    intro v1 w7 q1 q2 q3
    replace q2 : World.grownBy _ w7 (some (w.heap.size + 1)) := q2
    have HQ1 := Lib.hid q1
    have HQ2 := Lib.hid q2
    clear q1 q2 q3
    obtain ⟨gr, cap, cur, rfl, k1, k2, k3, k4, k5, k6⟩ : ∃ gr cap cur, v1 = .slice (some ⟨gr, 0, none⟩) n cap ∧ w.heap.size + 1 ≤ gr ∧ w7.heap[gr]? = some (.cells cur 65 (0, 0)) ∧ n ≤ cap ∧ cap ≤ maxLen ∧ cur.size = cap * 4 ∧ cur.toList.take (n * 4) = ((⟨y0, y1, y2, 1⟩ : S65) :: R).flatMap jcl := by
      rcases HQ1.out.2 with ⟨_, h0⟩ | ⟨g, cap, cur, h⟩
      · exact absurd h0 (by omega)
      · exact ⟨g, cap, cur, by simpa using h⟩
    have hat7 := own_at k6
    have g3 : w7.cell? ⟨gr, 3, none⟩ = some (.int .i64 1) := (blk_cell k2 3).trans (by have := hat7 0 _ rfl 3 _ rfl; simpa using this)
    have f3 := blk_frozen k2 3
    have HK := Lib.hid k2
    have HAT := Lib.hid hat7
    have HSZ := Lib.hid (show 4 ≤ cur.size by rw [k5]; omega)
    clear k2 k4 k5 k6 hat7)
  have hzg : w.heap.size ≠ gr := by omega
  obtain ⟨W, hW⟩ : ∃ W, w7.setCell ⟨gr, 3, none⟩ (.int .i64 0) = W := ⟨_, rfl⟩
  have HROW : Hid (RwJ W (some ⟨gr, 0, none⟩) ((⟨y0, y1, y2, 0⟩ : S65) :: R)) := by rw [← hW]; exact rwj_less HK.out HAT.out HSZ.out
  have HRF : Hid (W.heap[hb]? = some (.cells #[.slice (some ⟨b, o, none⟩) n c] 97 (0, 0))) := by
    rw [← hW, ← HN.out]
    exact blk_off ((HQ2.out.block hb (by simp; omega) (by simp; omega)).trans H1A.out) (by omega) 3 _
  have HZ : Hid (W.heap[w.heap.size]? = some (.cells #[.int .i64 0, .bool false] 73 (0, 0))) := by
    rw [← hW]
    exact blk_off ((HQ2.out.block w.heap.size (by simp only [World.size_alloc]; omega) (fun e => by have := Option.some.inj e; omega)).trans HZ0.out) hzg 3 _
  have HB : Hid (Below w.heap.size w W) := by
    rw [← hW]
    exact (HBB.out.grown HQ2.out HBB.out.size (fun r e => by cases e; omega)).setCell (p := ⟨gr, 3, none⟩) (by show w.heap.size ≤ gr; omega) _
  have HGR : Hid (w.heap.size < gr) := Lib.hid (by omega)
  rw [hW]
  clear hW g3 f3 HK HAT HSZ HQ1 HQ2 c0 c1 HZ0 HBB H1A HEO HNC HC HBA
  obtain ⟨g0, g3⟩ := rwj_03 HROW.out
  replace HROW := Lib.hid (HROW.out.below (below_drew (Below.refl _ _)))
  replace HRF := Lib.hid (blk_drew HRF.out)
  replace HZ := Lib.hid (blk_drew HZ.out)
  replace HB := Lib.hid (below_drew1 HB.out)
  replace g0 : W.drew.cell? _ = _ := g0
  replace g3 : W.drew.cell? _ = _ := g3
  refine start_ (n := 12) (S := fun w' => w'.cell? ⟨gr, 0, none⟩ = some (.int .i64 y0) ∧ w'.cell? ⟨gr, 3, none⟩ = some (.int .i64 0)) (ds := [11]) #[false, false, false, false, false, false, false, false, false, false, false, false] (by kernel_rfl) rfl rfl ⟨g0, g3⟩ (fun hHeld => ?_); refine with_tabW rrun.tab5 rrun.bits5 (fun HT_ HW_ => ?_)
  generalize W.drew = w5 at g0 g3 HROW HRF HZ HB hHeld ⊢
  refine pure_ (i := 0) (N := some 25) (v := ?_) (a' := ?_) #[true, false, false, false, false, false, false, false, false, false, false, false] rfl rfl (any_of HT_.out (by kernel_rfl)) (fun _ _ _ h => h) (Or.inl ⟨by rfl, ?_⟩) ?_ ?_
  rotate_left
  · intro w'
    go_simp
    with_reducible rfl
  rotate_left
  · simp only [Act.put, List.setIfInBounds_toArray, List.set_cons_zero, List.set_cons_succ, i64_w, i32_w]
    rfl
  refine pure_ (i := 1) (N := some 26) (v := ?_) (a' := ?_) #[true, true, false, false, false, false, false, false, false, false, false, false] rfl rfl (any_of HT_.out (by kernel_rfl)) (fun _ _ _ h => h) (Or.inl ⟨by rfl, ?_⟩) ?_ ?_
  rotate_left
  · intro w'
    go_simp
    with_reducible rfl
  rotate_left
  · simp only [Act.put, List.setIfInBounds_toArray, List.set_cons_zero, List.set_cons_succ, i64_w, i32_w]
    rfl
  refine pure_ (i := 2) (N := some 27) (v := ?_) (a' := ?_) #[true, true, true, false, false, false, false, false, false, false, false, false] rfl rfl (any_of HT_.out (by kernel_rfl)) (fun _ _ _ h => h) (Or.inl ⟨by rfl, ?_⟩) ?_ ?_
  rotate_left
  · intro w'
    go_simp
    with_reducible rfl
  rotate_left
  · simp only [Act.put, List.setIfInBounds_toArray, List.set_cons_zero, List.set_cons_succ, i64_w, i32_w]
    rfl
  refine take_ (i := 3) (N := some 28) (v := ?_) (a' := ?_) #[true, true, true, true, false, false, false, false, false, false, false, false] rfl rfl (take_ofW HT_.out HW_.out (by kernel_rfl)) (fun _ _ _ h => h) (Or.inl ⟨by rfl, ?_⟩) hHeld ?_ ?_
  rotate_left
  · rintro w' ⟨s0, s1⟩
    go_simp
    with_reducible rfl
  rotate_left
  · simp only [Act.put, List.setIfInBounds_toArray, List.set_cons_zero, List.set_cons_succ, i64_w, i32_w]
    rfl
  refine pure_ (i := 4) (N := some 29) (v := ?_) (a' := ?_) #[true, true, true, true, true, false, false, false, false, false, false, false] rfl rfl (any_of HT_.out (by kernel_rfl)) (fun _ _ _ h => h) (Or.inl ⟨by rfl, ?_⟩) ?_ ?_
  rotate_left
  · intro w'
    go_simp
    with_reducible rfl
  rotate_left
  · simp only [Act.put, List.setIfInBounds_toArray, List.set_cons_zero, List.set_cons_succ, i64_w, i32_w]
    rfl
  refine pure_ (i := 5) (N := some 30) (v := ?_) (a' := ?_) #[true, true, true, true, true, true, false, false, false, false, false, false] rfl rfl (any_of HT_.out (by kernel_rfl)) (fun _ _ _ h => h) (Or.inl ⟨by rfl, ?_⟩) ?_ ?_
  rotate_left
  · intro w'
    go_simp
    with_reducible rfl
  rotate_left
  · simp only [Act.put, List.setIfInBounds_toArray, List.set_cons_zero, List.set_cons_succ, i64_w, i32_w]
    rfl
  refine pure_ (i := 6) (N := some 31) (v := ?_) (a' := ?_) #[true, true, true, true, true, true, true, false, false, false, false, false] rfl rfl (any_of HT_.out (by kernel_rfl)) (fun _ _ _ h => h) (Or.inl ⟨by rfl, ?_⟩) ?_ ?_
  rotate_left
  · intro w'
    go_simp
    with_reducible rfl
  rotate_left
  · simp only [Act.put, List.setIfInBounds_toArray, List.set_cons_zero, List.set_cons_succ, i64_w, i32_w]
    rfl
  refine take_ (i := 7) (N := some 32) (v := ?_) (a' := ?_) #[true, true, true, true, true, true, true, true, false, false, false, false] rfl rfl (take_ofW HT_.out HW_.out (by kernel_rfl)) (fun _ _ _ h => h) (Or.inl ⟨by rfl, ?_⟩) hHeld ?_ ?_
  rotate_left
  · rintro w' ⟨s0, s1⟩
    go_simp
    with_reducible rfl
  rotate_left
  · simp only [Act.put, List.setIfInBounds_toArray, List.set_cons_zero, List.set_cons_succ, i64_w, i32_w]
    rfl
  refine pure_ (i := 8) (N := some 33) (v := ?_) (a' := ?_) #[true, true, true, true, true, true, true, true, true, false, false, false] rfl rfl (any_of HT_.out (by kernel_rfl)) (fun _ _ _ h => h) (Or.inl ⟨by rfl, ?_⟩) ?_ ?_
  rotate_left
  · intro w'
    go_simp
    with_reducible rfl
  rotate_left
  · simp only [Act.put, List.setIfInBounds_toArray, List.set_cons_zero, List.set_cons_succ, i64_w, i32_w]
    rfl
  refine pure_ (i := 9) (N := some 34) (v := ?_) (a' := ?_) #[true, true, true, true, true, true, true, true, true, true, false, false] rfl rfl (any_of HT_.out (by kernel_rfl)) (fun _ _ _ h => h) (Or.inl ⟨by rfl, ?_⟩) ?_ ?_
  rotate_left
  · intro w'
    go_simp
    with_reducible rfl
  rotate_left
  · simp only [Act.put, List.setIfInBounds_toArray, List.set_cons_zero, List.set_cons_succ, i64_w, i32_w]
    rfl
  refine one_ (i := 10) (N := some 4) #[true, true, true, true, true, true, true, true, true, true, true, false] rfl rfl (one_of HT_.out (by kernel_rfl)) (by decide) (fun K hK => ?_)
  refine event_step (w1 := w5.alloc (.cells #[.int .i64 0, .bool false] 73)) (v := .pointer (some ⟨w5.heap.size, 0, none⟩)) (by rfl) (by go_simp) ?_
  refine hK.out _ _ ⟨((below_alloc (Below.refl _ _) _).cell (World.block_lt_of_cell? w5 _ g0)).trans g0, ((below_alloc (Below.refl _ _) _).cell (World.block_lt_of_cell? w5 _ g3)).trans g3⟩ (fun hHeld => ?_)
  clear hK K
  refine norm_ (a' := ?_) ?_ ?_
  rotate_left
  · show Act.put _ (some 4) _ = _
    simp only [Act.put, List.setIfInBounds_toArray, List.set_cons_zero, List.set_cons_succ, i64_w, i32_w]
    rfl
  refine last_ (i := 11) (N := none) #[true, true, true, true, true, true, true, true, true, true, true, true] rfl rfl (one_of HT_.out (by kernel_rfl)) (by decide) (fun K hK => ?_)
  refine skip_ (w1 := ?_) (by rfl) rfl ?_ ?_
  rotate_left
  · go_simp
    rfl
  refine hK.out _ _ ?_
  clear hK K
  refine done_ (done_of HT_.out (by kernel_rfl)) ?_
  obtain ⟨W8, hW8⟩ : ∃ W, w5.alloc (.cells #[.int .i64 y0, .bool true] 73) = W := ⟨_, rfl⟩
  have HRR : Hid (W8.heap[w5.heap.size]? = some (.cells #[.int .i64 y0, .bool true] 73 (0, 0))) := by rw [← hW8]; exact heap_alloc_new w5 _
  have HRF8 : Hid (W8.heap[hb]? = some (.cells #[.slice (some ⟨b, o, none⟩) n c] 97 (0, 0))) := by rw [← hW8]; exact blk_alloc HRF.out _
  have HZ8 : Hid (W8.heap[w.heap.size]? = some (.cells #[.int .i64 0, .bool false] 73 (0, 0))) := by rw [← hW8]; exact blk_alloc HZ.out _
  have HB8 : Hid (Below w.heap.size w W8) := by rw [← hW8]; exact below_alloc HB.out _
  have HROW8 : Hid (RwJ W8 (some ⟨gr, 0, none⟩) ((⟨y0, y1, y2, 0⟩ : S65) :: R)) := by rw [← hW8]; exact HROW.out.below (below_alloc (Below.refl _ _) _)
  have HZL : Hid (w.heap.size < w5.heap.size) := Lib.hid (blk_lt HZ.out)
  rw [hW8]
  clear hW8 hHeld HRF HZ HB HROW g0 g3
  obtain ⟨br, hbr⟩ : ∃ n, w5.heap.size = n := ⟨_, rfl⟩
  rw [hbr] at HRR HZL ⊢
  clear hbr
  obtain ⟨z, hzz⟩ : ∃ n, w.heap.size = n := ⟨_, rfl⟩
  have HZW := Lib.hid (show w.heap.size ≤ z by omega)
  have n1 : ¬ z = hb := by omega
  have n2 : ¬ hb = z := by omega
  rw [hzz] at HZ8 HZL ⊢
  have n3 : ¬ br = z := by have := HZL.out; omega
  have n4 : ¬ z = br := by have := HZL.out; omega
  have n5 : ¬ br = hb := by have := HZL.out; omega
  have n6 : ¬ hb = br := by have := HZL.out; omega
  clear hzz hbl
  have r0 : W8.cell? ⟨br, 0, none⟩ = some (.int .i64 y0) := (blk_cell HRR.out 0).trans rfl
  have r1 : W8.cell? ⟨br, 1, none⟩ = some (.bool true) := (blk_cell HRR.out 1).trans rfl
  have b0 : W8.cell? ⟨hb, 0, none⟩ = some (.slice (some ⟨b, o, none⟩) n c) := (blk_cell HRF8.out 0).trans rfl
  have fb := blk_frozen HRF8.out 0
  have z0 : W8.cell? ⟨z, 0, none⟩ = some (.int .i64 0) := (blk_cell HZ8.out 0).trans rfl
  have z1 : W8.cell? ⟨z, 1, none⟩ = some (.bool false) := (blk_cell HZ8.out 1).trans rfl
  have fz0 := blk_frozen HZ8.out 0
  have fz1 := blk_frozen HZ8.out 1
  by_cases hcap : cap = 1
  · have hn1' : n = 1 := by omega
    subst hcap
    subst hn1'
    have hR : R = [] := by have := HN.out; simpa using this
    subst hR
    go_wp2
    obtain ⟨WW, hWW⟩ : ∃ WW, put2 (W8.setCell ⟨hb, 0, none⟩ (.slice (some ⟨gr, 0, none⟩) ([] : List S65).length 0)) z y0 true = WW := ⟨_, rfl⟩
    have hrf := rf_set (A := some ⟨gr, 0, none⟩) (c := 0) (L := ([] : List S65)) HRF8.out (Nat.le_refl _) (.inl rfl)
    have hzk := blk_off HZ8.out n1 0 (.slice (some ⟨gr, 0, none⟩) ([] : List S65).length 0)
    have hzz := put2_own y0 true hzk
    have hgr := put2_grown ((grown_of_below HB8.out (some hb)).trans (PxR.grown_set W8 ⟨hb, 0, none⟩ (.slice (some ⟨gr, 0, none⟩) ([] : List S65).length 0))) HZW.out y0 true
    have hex := hrf.turned hzk (by decide) (by decide) (put2_self z y0 true)
    rw [hWW] at hzz hgr
    replace hex : RfJ WW hb [] := by rw [← hWW]; exact hex
    unfold put2 at hWW
    simp only [List.length_nil] at hWW
    rw [hWW]
    clear hWW z0 z1 fz0 fz1 r0 r1 b0 fb
    have e0 : WW.cell? ⟨z, 0, none⟩ = some (.int .i64 y0) := (blk_cell hzz 0).trans rfl
    have e1 : WW.cell? ⟨z, 1, none⟩ = some (.bool true) := (blk_cell hzz 1).trans rfl
    exact bodyPost_ret (v := .agg #[.int .i64 y0, .bool true]) (by simp [results, Try.results59, go_sem, e0, e1]) rfl ⟨rfl, hex, hgr⟩
  · have hcap1 : 1 < cap := by omega
    have hRL : R.length = n - 1 := by have := HN.out; simp at this; omega
    have HRL := Lib.hid hRL
    clear hRL
    go_wp2
    obtain ⟨WW, hWW⟩ : ∃ WW, put2 (W8.setCell ⟨hb, 0, none⟩ (.slice (some ⟨gr, 4, none⟩) R.length (cap - 1))) z y0 true = WW := ⟨_, rfl⟩
    have hrf := rf_set (A := some ⟨gr, 4, none⟩) (c := cap - 1) (L := R) HRF8.out (by have := HRL.out; omega) (rwj_tail HROW8.out)
    have hzk := blk_off HZ8.out n1 0 (.slice (some ⟨gr, 4, none⟩) R.length (cap - 1))
    have hzz := put2_own y0 true hzk
    have hgr := put2_grown ((grown_of_below HB8.out (some hb)).trans (PxR.grown_set W8 ⟨hb, 0, none⟩ (.slice (some ⟨gr, 4, none⟩) R.length (cap - 1)))) HZW.out y0 true
    have hex := hrf.turned hzk (by decide) (by decide) (put2_self z y0 true)
    rw [hWW] at hzz hgr
    replace hex : RfJ WW hb R := by rw [← hWW]; exact hex
    unfold put2 at hWW
    rw [HRL.out] at hWW
    rw [hWW]
    clear hWW z0 z1 fz0 fz1 r0 r1 b0 fb
    have e0 : WW.cell? ⟨z, 0, none⟩ = some (.int .i64 y0) := (blk_cell hzz 0).trans rfl
    have e1 : WW.cell? ⟨z, 1, none⟩ = some (.bool true) := (blk_cell hzz 1).trans rfl
    exact bodyPost_ret (v := .agg #[.int .i64 y0, .bool true]) (by simp [results, Try.results59, go_sem, e0, e1]) rfl ⟨rfl, hex, hgr⟩

set_option maxHeartbeats 8000000 in
set_option maxRecDepth 100000 in
theorem rrun_more.calls (hb : Nat) (y0 y1 y2 y3 : Int) (R : List S65) (w : World) (h : RfJ w hb (⟨y0, y1, y2, y3⟩ :: R)) (h1 : 1 < y3) (h2 : y3 ≤ 2147483648) (hl : R.length < 800000) : Calls Try.prog 59 #[.pointer (some ⟨hb, 0, none⟩)] w fun e w' => e = .returned (.agg #[.int .i64 y0, .bool false]) ∧ RfJ w' hb (⟨y0, y1, y2, y3 - 1⟩ :: R) ∧ w.grownBy w' (some hb) := by
  obtain ⟨A, c, h1', h2', h3'⟩ := h
  rcases h3' with h3' | ⟨b, o, cells, rfl, hbk, hat⟩
  · cases h3'
  have hba := below_alloc (Below.refl w.heap.size w) (.cells #[.int .i64 0, .bool false] 73)
  have HBA := Lib.hid hba
  have HC := Lib.hid (rwj_C (L := (⟨y0, y1, y2, y3⟩ : S65) :: R) (.inr ⟨b, o, cells, rfl, hbk, hat⟩) (by simp; omega))
  have H1 := Lib.hid h1'
  have c0 : (w.alloc (.cells #[.int .i64 0, .bool false] 73)).cell? ⟨hb, 0, none⟩ = some (.slice (some ⟨b, o, none⟩) ((⟨y0, y1, y2, y3⟩ : S65) :: R).length c) := (blk_cell (blk_alloc h1' _) 0).trans rfl
  have hz : ((((⟨y0, y1, y2, y3⟩ : S65) :: R).length : Int) == 0) = false := by rw [beq_eq_false_iff_ne]; simp; omega
  obtain ⟨n, hn⟩ : ∃ n, ((⟨y0, y1, y2, y3⟩ : S65) :: R).length = n := ⟨_, rfl⟩
  have HN := Lib.hid hn
  have hn1 : 0 < n := by simp at hn; omega
  have hn2 : n < 900000 := by simp at hn; omega
  have hlc : n ≤ c := by omega
  rw [hn] at c0 hz HC
  have c1 : ((w.alloc (.cells #[.int .i64 0, .bool false] 73)).alloc (.cells #[] 65)).cell? ⟨hb, 0, none⟩ = some (.slice (some ⟨b, o, none⟩) n c) := by rw [← hn]; exact (blk_cell (blk_alloc (blk_alloc h1' _) _) 0).trans rfl
  obtain ⟨i0, hi0, hz0, hz1, hz2⟩ := info_parts info65
  have HEO := Lib.hid (own_empty (w.alloc (.cells #[.int .i64 0, .bool false] 73)))
  have HNC := Lib.hid (rwj_flat (w := (w.alloc (.cells #[.int .i64 0, .bool false] 73)).alloc (.cells #[] 65)) (blk_alloc (blk_alloc hbk _) _) hat)
  have HZ0 := Lib.hid (blk_alloc (heap_alloc_new w (.cells #[.int .i64 0, .bool false] 73)) (.cells #[] 65))
  have HBB := Lib.hid (below_alloc hba (.cells #[] 65))
  have hd : ((y3 - 1 : Int) == 0) = false := by rw [beq_eq_false_iff_ne]; omega
  have H1A := Lib.hid (blk_alloc (blk_alloc h1' (.cells #[.int .i64 0, .bool false] 73)) (.cells #[] 65))
  have hbl := blk_lt h1'
  have hn3 : (0 : Int) < (n : Int) := by omega
  have HLN := Lib.hid (by rw [jcl_len, hn] : (((⟨y0, y1, y2, y3⟩ : S65) :: R).flatMap jcl).length = n * 4)
  clear h1' h2' hbk hat hba hl hn
  go_enter Try.func59, Try.ntmps59
  go_wp2_with (
    at_builtin
    refine wpList_append_own _ rfl (.tmp 12) (.tmp 16) 60 rfl (w.heap.size + 1) 65 i0 (.agg #[.int .i64 0, .int .i64 0, .int .i64 0, .int .i64 0]) 4 32 Try.underlying60 hi0 hz0 hz1 hz2 rfl (by decide) (.slice (some ⟨w.heap.size + 1, 0, none⟩) 0 0) 0 [] (by rfl) (by have := HEO.out; simpa using this) ⟨b, o, none⟩ n c (((⟨y0, y1, y2, y3⟩ : S65) :: R).flatMap jcl) (by rfl) HLN.out HNC.out (flat_one _) (by unfold maxLen; omega) (by omega) (by simp) ?_
    intro v1 w7 q1 q2 q3
    replace q2 : World.grownBy _ w7 (some (w.heap.size + 1)) := q2
    have HQ1 := Lib.hid q1
    have HQ2 := Lib.hid q2
    clear q1 q2 q3
    obtain ⟨gr, cap, cur, rfl, k1, k2, k3, k4, k5, k6⟩ : ∃ gr cap cur, v1 = .slice (some ⟨gr, 0, none⟩) n cap ∧ w.heap.size + 1 ≤ gr ∧ w7.heap[gr]? = some (.cells cur 65 (0, 0)) ∧ n ≤ cap ∧ cap ≤ maxLen ∧ cur.size = cap * 4 ∧ cur.toList.take (n * 4) = ((⟨y0, y1, y2, y3⟩ : S65) :: R).flatMap jcl := by
      rcases HQ1.out.2 with ⟨_, h0⟩ | ⟨g, cap, cur, h⟩
      · exact absurd h0 (by omega)
      · exact ⟨g, cap, cur, by simpa using h⟩
    have hat7 := own_at k6
    have g3 : w7.cell? ⟨gr, 3, none⟩ = some (.int .i64 y3) := (blk_cell k2 3).trans (by have := hat7 0 _ rfl 3 _ rfl; simpa using this)
    have f3 := blk_frozen k2 3
    have HK := Lib.hid k2
    have HAT := Lib.hid hat7
    have HSZ := Lib.hid (show 4 ≤ cur.size by rw [k5]; omega)
    clear k2 k4 k5 k6 hat7)
  have hzg : w.heap.size ≠ gr := by omega
  obtain ⟨W, hW⟩ : ∃ W, w7.setCell ⟨gr, 3, none⟩ (.int .i64 (y3 - 1)) = W := ⟨_, rfl⟩
  have HROW : Hid (RwJ W (some ⟨gr, 0, none⟩) ((⟨y0, y1, y2, (y3 - 1)⟩ : S65) :: R)) := by rw [← hW]; exact rwj_less HK.out HAT.out HSZ.out
  have HRF : Hid (W.heap[hb]? = some (.cells #[.slice (some ⟨b, o, none⟩) n c] 97 (0, 0))) := by
    rw [← hW, ← HN.out]
    exact blk_off ((HQ2.out.block hb (by simp; omega) (by simp; omega)).trans H1A.out) (by omega) 3 _
  have HZ : Hid (W.heap[w.heap.size]? = some (.cells #[.int .i64 0, .bool false] 73 (0, 0))) := by
    rw [← hW]
    exact blk_off ((HQ2.out.block w.heap.size (by simp only [World.size_alloc]; omega) (fun e => by have := Option.some.inj e; omega)).trans HZ0.out) hzg 3 _
  have HB : Hid (Below w.heap.size w W) := by
    rw [← hW]
    exact (HBB.out.grown HQ2.out HBB.out.size (fun r e => by cases e; omega)).setCell (p := ⟨gr, 3, none⟩) (by show w.heap.size ≤ gr; omega) _
  have HGR : Hid (w.heap.size < gr) := Lib.hid (by omega)
  rw [hW]
  clear hW g3 f3 HK HAT HSZ HQ1 HQ2 c0 c1 HZ0 HBB H1A HEO HNC HC HBA
  obtain ⟨g0, g3⟩ := rwj_03 HROW.out
  replace HROW := Lib.hid (HROW.out.below (below_drew (Below.refl _ _)))
  replace HRF := Lib.hid (blk_drew HRF.out)
  replace HZ := Lib.hid (blk_drew HZ.out)
  replace HB := Lib.hid (below_drew1 HB.out)
  replace g0 : W.drew.cell? _ = _ := g0
  replace g3 : W.drew.cell? _ = _ := g3
  refine start_ (n := 12) (S := fun w' => w'.cell? ⟨gr, 0, none⟩ = some (.int .i64 y0) ∧ w'.cell? ⟨gr, 3, none⟩ = some (.int .i64 (y3 - 1))) (ds := [11]) #[false, false, false, false, false, false, false, false, false, false, false, false] (by kernel_rfl) rfl rfl ⟨g0, g3⟩ (fun hHeld => ?_); refine with_tabW rrun.tab5 rrun.bits5 (fun HT_ HW_ => ?_)
  generalize W.drew = w5 at g0 g3 HROW HRF HZ HB hHeld ⊢
  refine pure_ (i := 0) (N := some 25) (v := ?_) (a' := ?_) #[true, false, false, false, false, false, false, false, false, false, false, false] rfl rfl (any_of HT_.out (by kernel_rfl)) (fun _ _ _ h => h) (Or.inl ⟨by rfl, ?_⟩) ?_ ?_
  rotate_left
  · intro w'
    go_simp
    with_reducible rfl
  rotate_left
  · simp only [Act.put, List.setIfInBounds_toArray, List.set_cons_zero, List.set_cons_succ, i64_w, i32_w]
    rfl
  refine pure_ (i := 1) (N := some 26) (v := ?_) (a' := ?_) #[true, true, false, false, false, false, false, false, false, false, false, false] rfl rfl (any_of HT_.out (by kernel_rfl)) (fun _ _ _ h => h) (Or.inl ⟨by rfl, ?_⟩) ?_ ?_
  rotate_left
  · intro w'
    go_simp
    with_reducible rfl
  rotate_left
  · simp only [Act.put, List.setIfInBounds_toArray, List.set_cons_zero, List.set_cons_succ, i64_w, i32_w]
    rfl
  refine pure_ (i := 2) (N := some 27) (v := ?_) (a' := ?_) #[true, true, true, false, false, false, false, false, false, false, false, false] rfl rfl (any_of HT_.out (by kernel_rfl)) (fun _ _ _ h => h) (Or.inl ⟨by rfl, ?_⟩) ?_ ?_
  rotate_left
  · intro w'
    go_simp
    with_reducible rfl
  rotate_left
  · simp only [Act.put, List.setIfInBounds_toArray, List.set_cons_zero, List.set_cons_succ, i64_w, i32_w]
    rfl
  refine take_ (i := 3) (N := some 28) (v := ?_) (a' := ?_) #[true, true, true, true, false, false, false, false, false, false, false, false] rfl rfl (take_ofW HT_.out HW_.out (by kernel_rfl)) (fun _ _ _ h => h) (Or.inl ⟨by rfl, ?_⟩) hHeld ?_ ?_
  rotate_left
  · rintro w' ⟨s0, s1⟩
    go_simp
    with_reducible rfl
  rotate_left
  · simp only [Act.put, List.setIfInBounds_toArray, List.set_cons_zero, List.set_cons_succ, i64_w, i32_w]
    rfl
  refine pure_ (i := 4) (N := some 29) (v := ?_) (a' := ?_) #[true, true, true, true, true, false, false, false, false, false, false, false] rfl rfl (any_of HT_.out (by kernel_rfl)) (fun _ _ _ h => h) (Or.inl ⟨by rfl, ?_⟩) ?_ ?_
  rotate_left
  · intro w'
    go_simp
    with_reducible rfl
  rotate_left
  · simp only [Act.put, List.setIfInBounds_toArray, List.set_cons_zero, List.set_cons_succ, i64_w, i32_w]
    rfl
  refine pure_ (i := 5) (N := some 30) (v := ?_) (a' := ?_) #[true, true, true, true, true, true, false, false, false, false, false, false] rfl rfl (any_of HT_.out (by kernel_rfl)) (fun _ _ _ h => h) (Or.inl ⟨by rfl, ?_⟩) ?_ ?_
  rotate_left
  · intro w'
    go_simp
    with_reducible rfl
  rotate_left
  · simp only [Act.put, List.setIfInBounds_toArray, List.set_cons_zero, List.set_cons_succ, i64_w, i32_w]
    rfl
  refine pure_ (i := 6) (N := some 31) (v := ?_) (a' := ?_) #[true, true, true, true, true, true, true, false, false, false, false, false] rfl rfl (any_of HT_.out (by kernel_rfl)) (fun _ _ _ h => h) (Or.inl ⟨by rfl, ?_⟩) ?_ ?_
  rotate_left
  · intro w'
    go_simp
    with_reducible rfl
  rotate_left
  · simp only [Act.put, List.setIfInBounds_toArray, List.set_cons_zero, List.set_cons_succ, i64_w, i32_w]
    rfl
  refine take_ (i := 7) (N := some 32) (v := ?_) (a' := ?_) #[true, true, true, true, true, true, true, true, false, false, false, false] rfl rfl (take_ofW HT_.out HW_.out (by kernel_rfl)) (fun _ _ _ h => h) (Or.inl ⟨by rfl, ?_⟩) hHeld ?_ ?_
  rotate_left
  · rintro w' ⟨s0, s1⟩
    go_simp
    with_reducible rfl
  rotate_left
  · simp only [Act.put, List.setIfInBounds_toArray, List.set_cons_zero, List.set_cons_succ, i64_w, i32_w]
    rfl
  refine pure_ (i := 8) (N := some 33) (v := ?_) (a' := ?_) #[true, true, true, true, true, true, true, true, true, false, false, false] rfl rfl (any_of HT_.out (by kernel_rfl)) (fun _ _ _ h => h) (Or.inl ⟨by rfl, ?_⟩) ?_ ?_
  rotate_left
  · intro w'
    go_simp
    with_reducible rfl
  rotate_left
  · simp only [Act.put, List.setIfInBounds_toArray, List.set_cons_zero, List.set_cons_succ, i64_w, i32_w]
    rfl
  refine pure_ (i := 9) (N := some 34) (v := ?_) (a' := ?_) #[true, true, true, true, true, true, true, true, true, true, false, false] rfl rfl (any_of HT_.out (by kernel_rfl)) (fun _ _ _ h => h) (Or.inl ⟨by rfl, ?_⟩) ?_ ?_
  rotate_left
  · intro w'
    go_simp
    with_reducible rfl
  rotate_left
  · simp only [Act.put, List.setIfInBounds_toArray, List.set_cons_zero, List.set_cons_succ, i64_w, i32_w]
    rfl
  refine one_ (i := 10) (N := some 4) #[true, true, true, true, true, true, true, true, true, true, true, false] rfl rfl (one_of HT_.out (by kernel_rfl)) (by decide) (fun K hK => ?_)
  refine event_step (w1 := w5.alloc (.cells #[.int .i64 0, .bool false] 73)) (v := .pointer (some ⟨w5.heap.size, 0, none⟩)) (by rfl) (by go_simp) ?_
  refine hK.out _ _ ⟨((below_alloc (Below.refl _ _) _).cell (World.block_lt_of_cell? w5 _ g0)).trans g0, ((below_alloc (Below.refl _ _) _).cell (World.block_lt_of_cell? w5 _ g3)).trans g3⟩ (fun hHeld => ?_)
  clear hK K
  refine norm_ (a' := ?_) ?_ ?_
  rotate_left
  · show Act.put _ (some 4) _ = _
    simp only [Act.put, List.setIfInBounds_toArray, List.set_cons_zero, List.set_cons_succ, i64_w, i32_w]
    rfl
  refine last_ (i := 11) (N := none) #[true, true, true, true, true, true, true, true, true, true, true, true] rfl rfl (one_of HT_.out (by kernel_rfl)) (by decide) (fun K hK => ?_)
  refine skip_ (w1 := ?_) (by rfl) rfl ?_ ?_
  rotate_left
  · go_simp
    rfl
  refine hK.out _ _ ?_
  clear hK K
  refine done_ (done_of HT_.out (by kernel_rfl)) ?_
  obtain ⟨W8, hW8⟩ : ∃ W, w5.alloc (.cells #[.int .i64 y0, .bool false] 73) = W := ⟨_, rfl⟩
  have HRR : Hid (W8.heap[w5.heap.size]? = some (.cells #[.int .i64 y0, .bool false] 73 (0, 0))) := by rw [← hW8]; exact heap_alloc_new w5 _
  have HRF8 : Hid (W8.heap[hb]? = some (.cells #[.slice (some ⟨b, o, none⟩) n c] 97 (0, 0))) := by rw [← hW8]; exact blk_alloc HRF.out _
  have HZ8 : Hid (W8.heap[w.heap.size]? = some (.cells #[.int .i64 0, .bool false] 73 (0, 0))) := by rw [← hW8]; exact blk_alloc HZ.out _
  have HB8 : Hid (Below w.heap.size w W8) := by rw [← hW8]; exact below_alloc HB.out _
  have HROW8 : Hid (RwJ W8 (some ⟨gr, 0, none⟩) ((⟨y0, y1, y2, (y3 - 1)⟩ : S65) :: R)) := by rw [← hW8]; exact HROW.out.below (below_alloc (Below.refl _ _) _)
  have HZL : Hid (w.heap.size < w5.heap.size) := Lib.hid (blk_lt HZ.out)
  rw [hW8]
  clear hW8 hHeld HRF HZ HB HROW g0 g3
  obtain ⟨br, hbr⟩ : ∃ n, w5.heap.size = n := ⟨_, rfl⟩
  rw [hbr] at HRR HZL ⊢
  clear hbr
  obtain ⟨z, hzz⟩ : ∃ n, w.heap.size = n := ⟨_, rfl⟩
  have HZW := Lib.hid (show w.heap.size ≤ z by omega)
  have n1 : ¬ z = hb := by omega
  have n2 : ¬ hb = z := by omega
  rw [hzz] at HZ8 HZL ⊢
  have n3 : ¬ br = z := by have := HZL.out; omega
  have n4 : ¬ z = br := by have := HZL.out; omega
  have n5 : ¬ br = hb := by have := HZL.out; omega
  have n6 : ¬ hb = br := by have := HZL.out; omega
  clear hzz hbl
  have r0 : W8.cell? ⟨br, 0, none⟩ = some (.int .i64 y0) := (blk_cell HRR.out 0).trans rfl
  have r1 : W8.cell? ⟨br, 1, none⟩ = some (.bool false) := (blk_cell HRR.out 1).trans rfl
  have b0 : W8.cell? ⟨hb, 0, none⟩ = some (.slice (some ⟨b, o, none⟩) n c) := (blk_cell HRF8.out 0).trans rfl
  have fb := blk_frozen HRF8.out 0
  have z0 : W8.cell? ⟨z, 0, none⟩ = some (.int .i64 0) := (blk_cell HZ8.out 0).trans rfl
  have z1 : W8.cell? ⟨z, 1, none⟩ = some (.bool false) := (blk_cell HZ8.out 1).trans rfl
  have fz0 := blk_frozen HZ8.out 0
  have fz1 := blk_frozen HZ8.out 1
  go_wp2
  obtain ⟨WW, hWW⟩ : ∃ WW, put2 (W8.setCell ⟨hb, 0, none⟩ (.slice (some ⟨gr, 0, none⟩) ((⟨y0, y1, y2, y3 - 1⟩ : S65) :: R).length cap)) z y0 false = WW := ⟨_, rfl⟩
  have hrf := rf_set (A := some ⟨gr, 0, none⟩) (c := cap) (L := ((⟨y0, y1, y2, y3 - 1⟩ : S65) :: R)) HRF8.out (by simpa using Nat.le_trans (Nat.le_of_eq HN.out) k3) HROW8.out
  have hzk := blk_off HZ8.out n1 0 (.slice (some ⟨gr, 0, none⟩) ((⟨y0, y1, y2, y3 - 1⟩ : S65) :: R).length cap)
  have hzz := put2_own y0 false hzk
  have hgr := put2_grown ((grown_of_below HB8.out (some hb)).trans (PxR.grown_set W8 ⟨hb, 0, none⟩ (.slice (some ⟨gr, 0, none⟩) ((⟨y0, y1, y2, y3 - 1⟩ : S65) :: R).length cap))) HZW.out y0 false
  have hex := hrf.turned hzk (by decide) (by decide) (put2_self z y0 false)
  rw [hWW] at hzz hgr
  replace hex : RfJ WW hb (⟨y0, y1, y2, y3 - 1⟩ :: R) := by rw [← hWW]; exact hex
  unfold put2 at hWW
  rw [show ((⟨y0, y1, y2, y3 - 1⟩ : S65) :: R).length = n from by rw [← HN.out]; rfl] at hWW
  rw [hWW]
  clear hWW z0 z1 fz0 fz1 r0 r1 b0 fb
  have e0 : WW.cell? ⟨z, 0, none⟩ = some (.int .i64 y0) := (blk_cell hzz 0).trans rfl
  have e1 : WW.cell? ⟨z, 1, none⟩ = some (.bool false) := (blk_cell hzz 1).trans rfl
  exact bodyPost_ret (v := .agg #[.int .i64 y0, .bool false]) (by simp [results, Try.results59, go_sem, e0, e1]) rfl ⟨rfl, hex, hgr⟩

def horariumlaw18_awake.f : Option Bool := some true
theorem horariumlaw18_awake.calls (r : Bool) (w : World) (h : horariumlaw18_awake.f = some r) : Calls Try.prog 44 #[] w fun e w' => e = .returned (.bool r) ∧ Below w.heap.size w w' := by
  obtain rfl := Option.some.inj h
  exact awake18.calls w

end Go.Proofs.Ytbkjoojfpmokaaa.PEdfMeets
