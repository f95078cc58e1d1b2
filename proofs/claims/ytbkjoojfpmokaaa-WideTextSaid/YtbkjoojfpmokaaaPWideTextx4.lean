-- Made by px.py (a program of this session, over the kit's printer) out of the translation. Not trusted: Lean checks it.
import Derived.Test.YtbkjoojfpmokaaaPWideTextx0
import Derived.Test.YtbkjoojfpmokaaaPWideTextx2
import Derived.Test.YtbkjoojfpmokaaaPWideTextx3
namespace Go.Proofs.Ytbkjoojfpmokaaa.PWideText
open Go.RowKit Go.Proofs.YtbkjoojfpmokaaaW.PrintWords Go.Proofs.YtbkjoojfpmokaaaW.PrintLast Go.Proofs.YtbkjoojfpmokaaaW.PrintMore
attribute [local go_sem] max2_int min2_int max_two min_two max_three min_three max_four min_four   -- for this text's walks alone
set_option linter.unusedVariables false
set_option linter.unusedSimpArgs false

/-! ### horariumlaw01_WideText: function 10 -/
mutual
def horariumlaw01_WideText.j0 : Nat → Int → Int → Bool → ByteArray → ByteArray → Int → Bool → Option (Bool)
  | 0, _, _, _, _, _, _, _ => none
  | k + 1, x0, x1, x5, x6, x7, x8, x32 => if x32 = true then (horariumlaw01_WideText.j1 k x0 x1 x5 x6 (-1)) else (if x6.toList = x7.toList then (horariumlaw01_WideText.j1 k x0 x1 x5 x6 x8) else (horariumlaw01_WideText.j1 k x0 x1 x5 x6 1))
def horariumlaw01_WideText.j1 : Nat → Int → Int → Bool → ByteArray → Int → Option (Bool)
  | 0, _, _, _, _, _ => none
  | k + 1, x0, x1, x5, x6, x8 => if x5 = true then ((wide_Of.f x0).bind fun bt143 => ((wide_Of.f x1).bind fun bt145 => ((wide_Cmp.f k bt143.1 bt143.2 bt145.1 bt145.2).bind fun t147 => (if t147 = x8 then (if x0 = 0 then (some (decide ((x6.size : Int) > 0))) else ((wide_Mul.f x0 10).bind fun bt148 => ((wide_Text.f k bt148.1 bt148.2).bind fun t150 => (if x6.size + 1 ≤ 9223372036854775807 then (if t150.toList = (x6 ++ (⟨#[48]⟩ : ByteArray)).toList then (some (decide ((x6.size : Int) > 0))) else (some false)) else (none))))) else (some false))))) else (some false)
end
def horariumlaw01_WideText.f (k : Nat) (a0 : Int) (a1 : Int) : Option (Bool) := (horariumlaw01_awake.f k).bind fun t136 => ((wide_Of.f a0).bind fun bt137 => ((wide_Text.f k bt137.1 bt137.2).bind fun t139 => ((wide_Of.f a1).bind fun bt140 => ((wide_Text.f k bt140.1 bt140.2).bind fun t142 => (if (t139.size : Int) < (t142.size : Int) then (horariumlaw01_WideText.j0 k a0 a1 t136 t139 t142 0 true) else (if (t139.size : Int) = (t142.size : Int) then (horariumlaw01_WideText.j0 k a0 a1 t136 t139 t142 0 (Op.bytesLess t139.toList t142.toList)) else (horariumlaw01_WideText.j0 k a0 a1 t136 t139 t142 0 false)))))))
theorem horariumlaw01_WideText.mono_l : ∀ k, (∀ y0 y1 y2 y3 y4 y5 y6, LeO (horariumlaw01_WideText.j0 k y0 y1 y2 y3 y4 y5 y6) (horariumlaw01_WideText.j0 (k + 1) y0 y1 y2 y3 y4 y5 y6)) ∧ (∀ y0 y1 y2 y3 y4, LeO (horariumlaw01_WideText.j1 k y0 y1 y2 y3 y4) (horariumlaw01_WideText.j1 (k + 1) y0 y1 y2 y3 y4))
  | 0 => ⟨fun _ _ _ _ _ _ _ r h => by simp [horariumlaw01_WideText.j0] at h, fun _ _ _ _ _ r h => by simp [horariumlaw01_WideText.j1] at h⟩
  | k + 1 => by
    obtain ⟨ih0, ih1⟩ := horariumlaw01_WideText.mono_l k
    refine ⟨?_, ?_⟩
    · intro y0 y1 y2 y3 y4 y5 y6
      unfold horariumlaw01_WideText.j0
      repeat' first
      | (with_reducible exact ih0 _ _ _ _ _ _ _)
      | (with_reducible exact ih1 _ _ _ _ _)
      | (with_reducible exact horariumlaw01_awake.mono _)
      | (with_reducible exact wide_Cmp.mono _ _ _ _ _)
      | (with_reducible exact wide_Text.mono _ _ _)
      | (with_reducible exact LeO.refl _)
      | (with_reducible exact LeO.none _)
      | (with_reducible refine LeO.ite ?_ ?_)
      | (with_reducible refine LeO.bind ?_ (fun _ => ?_))
      | exact ih0 _ _ _ _ _ _ _
      | exact ih1 _ _ _ _ _
      | exact horariumlaw01_awake.mono _
      | exact wide_Cmp.mono _ _ _ _ _
      | exact wide_Text.mono _ _ _
      | exact LeO.none _
      | refine LeO.ite ?_ ?_
      | refine LeO.bind ?_ (fun _ => ?_)
    · intro y0 y1 y2 y3 y4
      unfold horariumlaw01_WideText.j1
      repeat' first
      | (with_reducible exact ih0 _ _ _ _ _ _ _)
      | (with_reducible exact ih1 _ _ _ _ _)
      | (with_reducible exact horariumlaw01_awake.mono _)
      | (with_reducible exact wide_Cmp.mono _ _ _ _ _)
      | (with_reducible exact wide_Text.mono _ _ _)
      | (with_reducible exact LeO.refl _)
      | (with_reducible exact LeO.none _)
      | (with_reducible refine LeO.ite ?_ ?_)
      | (with_reducible refine LeO.bind ?_ (fun _ => ?_))
      | exact ih0 _ _ _ _ _ _ _
      | exact ih1 _ _ _ _ _
      | exact horariumlaw01_awake.mono _
      | exact wide_Cmp.mono _ _ _ _ _
      | exact wide_Text.mono _ _ _
      | exact LeO.none _
      | refine LeO.ite ?_ ?_
      | refine LeO.bind ?_ (fun _ => ?_)
theorem horariumlaw01_WideText.mono : ∀ a0 a1 k, LeO (horariumlaw01_WideText.f k a0 a1) (horariumlaw01_WideText.f (k + 1) a0 a1) := by
  intro a0 a1 k
  obtain ⟨ih0, ih1⟩ := horariumlaw01_WideText.mono_l k
  unfold horariumlaw01_WideText.f
  repeat' first
      | (with_reducible exact ih0 _ _ _ _ _ _ _)
      | (with_reducible exact ih1 _ _ _ _ _)
      | (with_reducible exact horariumlaw01_awake.mono _)
      | (with_reducible exact wide_Cmp.mono _ _ _ _ _)
      | (with_reducible exact wide_Text.mono _ _ _)
      | (with_reducible exact LeO.refl _)
      | (with_reducible exact LeO.none _)
      | (with_reducible refine LeO.ite ?_ ?_)
      | (with_reducible refine LeO.bind ?_ (fun _ => ?_))
      | exact ih0 _ _ _ _ _ _ _
      | exact ih1 _ _ _ _ _
      | exact horariumlaw01_awake.mono _
      | exact wide_Cmp.mono _ _ _ _ _
      | exact wide_Text.mono _ _ _
      | exact LeO.none _
      | refine LeO.ite ?_ ?_
      | refine LeO.bind ?_ (fun _ => ?_)
set_option maxHeartbeats 8000000 in
set_option maxRecDepth 100000 in
theorem horariumlaw01_WideText.calls (k : Nat) (a0 : Int) (a1 : Int) (r : Bool) (w : World) (h : horariumlaw01_WideText.f k a0 a1 = some r) :
    Calls Try.prog 10 #[.int .u64 a0, .int .u64 a1] w fun e w' => e = .returned (.bool r) ∧ Below w.heap.size w w' := by
  have HB := Aside0.mk (Below.refl w.heap.size w)
  have H : ((horariumlaw01_awake.f k).bind fun t136 => ((wide_Of.f a0).bind fun bt137 => ((wide_Text.f k bt137.1 bt137.2).bind fun t139 => ((wide_Of.f a1).bind fun bt140 => ((wide_Text.f k bt140.1 bt140.2).bind fun t142 => (if (t139.size : Int) < (t142.size : Int) then (horariumlaw01_WideText.j0 k a0 a1 t136 t139 t142 0 true) else (if (t139.size : Int) = (t142.size : Int) then (horariumlaw01_WideText.j0 k a0 a1 t136 t139 t142 0 (Op.bytesLess t139.toList t142.toList)) else (horariumlaw01_WideText.j0 k a0 a1 t136 t139 t142 0 false)))))))) = some r := h
  clear h
  replace H := Option.bind_eq_some_iff.mp H
  obtain ⟨t136, A30, H⟩ := H
  replace H : ((wide_Of.f a0).bind fun bt137 => ((wide_Text.f k bt137.1 bt137.2).bind fun t139 => ((wide_Of.f a1).bind fun bt140 => ((wide_Text.f k bt140.1 bt140.2).bind fun t142 => (if (t139.size : Int) < (t142.size : Int) then (horariumlaw01_WideText.j0 k a0 a1 t136 t139 t142 0 true) else (if (t139.size : Int) = (t142.size : Int) then (horariumlaw01_WideText.j0 k a0 a1 t136 t139 t142 0 (Op.bytesLess t139.toList t142.toList)) else (horariumlaw01_WideText.j0 k a0 a1 t136 t139 t142 0 false))))))) = some r := H
  have A3 := Aside0.mk A30
  clear A30
  replace H := Option.bind_eq_some_iff.mp H
  obtain ⟨⟨t137, t138⟩, A40, H⟩ := H
  replace H : ((wide_Text.f k t137 t138).bind fun t139 => ((wide_Of.f a1).bind fun bt140 => ((wide_Text.f k bt140.1 bt140.2).bind fun t142 => (if (t139.size : Int) < (t142.size : Int) then (horariumlaw01_WideText.j0 k a0 a1 t136 t139 t142 0 true) else (if (t139.size : Int) = (t142.size : Int) then (horariumlaw01_WideText.j0 k a0 a1 t136 t139 t142 0 (Op.bytesLess t139.toList t142.toList)) else (horariumlaw01_WideText.j0 k a0 a1 t136 t139 t142 0 false)))))) = some r := H
  have A4 := Aside0.mk A40
  clear A40
  replace H := Option.bind_eq_some_iff.mp H
  obtain ⟨t139, A50, H⟩ := H
  replace H : ((wide_Of.f a1).bind fun bt140 => ((wide_Text.f k bt140.1 bt140.2).bind fun t142 => (if (t139.size : Int) < (t142.size : Int) then (horariumlaw01_WideText.j0 k a0 a1 t136 t139 t142 0 true) else (if (t139.size : Int) = (t142.size : Int) then (horariumlaw01_WideText.j0 k a0 a1 t136 t139 t142 0 (Op.bytesLess t139.toList t142.toList)) else (horariumlaw01_WideText.j0 k a0 a1 t136 t139 t142 0 false))))) = some r := H
  have A5 := Aside0.mk A50
  clear A50
  replace H := Option.bind_eq_some_iff.mp H
  obtain ⟨⟨t140, t141⟩, A60, H⟩ := H
  replace H : ((wide_Text.f k t140 t141).bind fun t142 => (if (t139.size : Int) < (t142.size : Int) then (horariumlaw01_WideText.j0 k a0 a1 t136 t139 t142 0 true) else (if (t139.size : Int) = (t142.size : Int) then (horariumlaw01_WideText.j0 k a0 a1 t136 t139 t142 0 (Op.bytesLess t139.toList t142.toList)) else (horariumlaw01_WideText.j0 k a0 a1 t136 t139 t142 0 false)))) = some r := H
  have A6 := Aside0.mk A60
  clear A60
  replace H := Option.bind_eq_some_iff.mp H
  obtain ⟨t142, A70, H⟩ := H
  replace H : (if (t139.size : Int) < (t142.size : Int) then (horariumlaw01_WideText.j0 k a0 a1 t136 t139 t142 0 true) else (if (t139.size : Int) = (t142.size : Int) then (horariumlaw01_WideText.j0 k a0 a1 t136 t139 t142 0 (Op.bytesLess t139.toList t142.toList)) else (horariumlaw01_WideText.j0 k a0 a1 t136 t139 t142 0 false))) = some r := H
  have A7 := Aside0.mk A70
  clear A70
  have HC8 := Aside0.mk H
  clear H
  go_enter Try.func10, Try.ntmps10
  go_upto_region 5 with (first | ((with_reducible refine gate_callee (f := 34) rfl ?_); refine goesL_ (some 9) rfl rfl Try.func34 (by kernel_rfl) rfl #[] rfl (by (try simp only [List.map_toArray, List.map_cons, List.map_nil]); first | done | rfl | (simp only [List.length_drop, List.length_take]; rfl)) ?_; (with_reducible refine (horariumlaw01_awake.calls k  t136 _ A3.out).mono ?_); rintro e w9 ⟨rfl, hb⟩; refine ⟨_, rfl, ?_⟩; have n0_ := Aside0.mk (below_step (by repeat (first | (with_reducible first | exact HB.out | apply below_alloc | apply pw_below_drewN | apply below_drew1) | exact HB.out)) hb); clear HB; have HB := n0_; clear n0_; (try clear hb); (try clear hb2); (try clear hk); (try clear hi)) | ((with_reducible refine gate_callee (f := 41) rfl ?_); refine goesL_ (some 11) rfl rfl Try.func41 (by kernel_rfl) rfl #[.int .u64 a0] rfl (by (try simp only [List.map_toArray, List.map_cons, List.map_nil]); first | done | rfl | (simp only [List.length_drop, List.length_take]; rfl)) ?_; (with_reducible refine (wide_Of.calls a0 t137 t138 _ A4.out).mono ?_); rintro e w10 ⟨rfl, hb⟩; refine ⟨_, rfl, ?_⟩; have n0_ := Aside0.mk (below_step (by repeat (first | (with_reducible first | exact HB.out | apply below_alloc | apply pw_below_drewN | apply below_drew1) | exact HB.out)) hb); clear HB; have HB := n0_; clear n0_; (try clear hb); (try clear hb2); (try clear hk); (try clear hi)) | ((with_reducible refine gate_callee (f := 37) rfl ?_); refine goesL_ (some 12) rfl rfl Try.func37 (by kernel_rfl) rfl #[.agg #[.int .u64 t137, .int .u64 t138]] rfl (by (try simp only [List.map_toArray, List.map_cons, List.map_nil]); first | done | rfl | (simp only [List.length_drop, List.length_take]; rfl)) ?_; (with_reducible refine (wide_Text.calls k t137 t138 t139 _ A5.out).mono ?_); rintro e w11 ⟨rfl, hb⟩; refine ⟨_, rfl, ?_⟩; have n0_ := Aside0.mk (below_step (by repeat (first | (with_reducible first | exact HB.out | apply below_alloc | apply pw_below_drewN | apply below_drew1) | exact HB.out)) hb); clear HB; have HB := n0_; clear n0_; (try clear hb); (try clear hb2); (try clear hk); (try clear hi)) | ((with_reducible refine gate_callee (f := 41) rfl ?_); refine goesL_ (some 14) rfl rfl Try.func41 (by kernel_rfl) rfl #[.int .u64 a1] rfl (by (try simp only [List.map_toArray, List.map_cons, List.map_nil]); first | done | rfl | (simp only [List.length_drop, List.length_take]; rfl)) ?_; (with_reducible refine (wide_Of.calls a1 t140 t141 _ A6.out).mono ?_); rintro e w12 ⟨rfl, hb⟩; refine ⟨_, rfl, ?_⟩; have n0_ := Aside0.mk (below_step (by repeat (first | (with_reducible first | exact HB.out | apply below_alloc | apply pw_below_drewN | apply below_drew1) | exact HB.out)) hb); clear HB; have HB := n0_; clear n0_; (try clear hb); (try clear hb2); (try clear hk); (try clear hi)) | ((with_reducible refine gate_callee (f := 37) rfl ?_); refine goesL_ (some 15) rfl rfl Try.func37 (by kernel_rfl) rfl #[.agg #[.int .u64 t140, .int .u64 t141]] rfl (by (try simp only [List.map_toArray, List.map_cons, List.map_nil]); first | done | rfl | (simp only [List.length_drop, List.length_take]; rfl)) ?_; (with_reducible refine (wide_Text.calls k t140 t141 t142 _ A7.out).mono ?_); rintro e w13 ⟨rfl, hb⟩; refine ⟨_, rfl, ?_⟩; have n0_ := Aside0.mk (below_step (by repeat (first | (with_reducible first | exact HB.out | apply below_alloc | apply pw_below_drewN | apply below_drew1) | exact HB.out)) hb); clear HB; have HB := n0_; clear n0_; (try clear hb); (try clear hb2); (try clear hk); (try clear hi)))
  (try simp only [Act.put, List.setIfInBounds_toArray, List.set_cons_zero, List.set_cons_succ])
  go_cut [32] (fun v32 wc => ∃ (kq : Nat) (x32_7 : Bool), v32 = .bool x32_7 ∧ Aside0 (horariumlaw01_WideText.j0 kq a0 a1 t136 t139 t142 0 x32_7 = some r) ∧ Aside0 (kq ≤ k) ∧ Aside0 (Below w.heap.size w wc))
  case first =>
    have H := HC8.out
    clear HC8
    by_cases c14 : (t139.size : Int) < (t142.size : Int)
    · rw [if_pos c14] at H
      have c14b0 : decide ((t139.size : Int) < (t142.size : Int)) = true := decide_eq_true c14
      have c14b1 : decide (t139.size < t142.size) = true := decide_eq_true (Int.ofNat_lt.mp c14)
      clear c14
      (first | rw [c14b0] | (simp only [i64_w, i32_w]; rw [c14b0]) | skip)
      have H' := Aside0.mk H
      clear H
      go_wp2
      go_meet
      case rel => exact ⟨_, (true), (by first | rfl | (simp; done) | (simp [*]; done)), H', ⟨by first | omega | exact Nat.le_refl _⟩, ⟨by repeat (first | (with_reducible first | exact HB.out | apply below_alloc | apply pw_below_drewN | apply below_drew1) | exact HB.out)⟩⟩
    · rw [if_neg c14] at H
      have c14b0 : decide ((t139.size : Int) < (t142.size : Int)) = false := decide_eq_false c14
      have c14b1 : decide (t139.size < t142.size) = false := decide_eq_false (fun h => c14 (Int.ofNat_lt.mpr h))
      clear c14
      (first | rw [c14b0] | (simp only [i64_w, i32_w]; rw [c14b0]) | skip)
      by_cases c15 : (t139.size : Int) = (t142.size : Int)
      · rw [if_pos c15] at H
        have c15b0 : ((t139.size : Int) == (t142.size : Int)) = true := beq_iff_eq.mpr c15
        have c15b1 : ((t139.size : Int) != (t142.size : Int)) = false := bne_eq_false_iff_eq.mpr c15
        have c15b2 : (t139.size == t142.size) = true := by first | simpa using c15 | (simp at c15 ⊢; omega)
        clear c15
        have H' := Aside0.mk H
        clear H
        go_wp2
        go_meet
        case rel => exact ⟨_, ((Op.bytesLess t139.toList t142.toList)), (by first | rfl | (simp; done) | (simp [*]; done)), H', ⟨by first | omega | exact Nat.le_refl _⟩, ⟨by repeat (first | (with_reducible first | exact HB.out | apply below_alloc | apply pw_below_drewN | apply below_drew1) | exact HB.out)⟩⟩
      · rw [if_neg c15] at H
        have c15b0 : ((t139.size : Int) == (t142.size : Int)) = false := beq_eq_false_iff_ne.mpr c15
        have c15b1 : ((t139.size : Int) != (t142.size : Int)) = true := bne_iff_ne.mpr c15
        have c15b2 : (t139.size == t142.size) = false := by first | simpa using c15 | (simp at c15 ⊢; omega)
        have H' := Aside0.mk H
        clear H
        go_wp2
        go_meet
        case rel => exact ⟨_, (false), (by first | rfl | (simp; done) | (simp [*]; done)), H', ⟨by first | omega | exact Nat.le_refl _⟩, ⟨by repeat (first | (with_reducible first | exact HB.out | apply below_alloc | apply pw_below_drewN | apply below_drew1) | exact HB.out)⟩⟩
  case rest =>
    clear HC8
    try clear c1
    try clear p2
    try clear c3
    try clear c4
    try clear c10
    try clear c14
    try clear c14b0
    try clear c14b1
    try clear c15
    try clear c15b0
    try clear c15b1
    try clear c15b2
    obtain ⟨kq, x32_7, rfl, HA, HJ7, HB⟩ := hcut
    cases kq with
    | zero => exact absurd HA.out (by simp [horariumlaw01_WideText.j0])
    | succ kj7 =>
      have H := HA.out
      clear HA
      simp only [horariumlaw01_WideText.j0] at H
      have HC16 := Aside0.mk H
      clear H
      go_upto_if 32 with (fail)
      go_cut [8] (fun v8 wc => ∃ (kq : Nat) (x8_15 : Int), v8 = .int .i64 x8_15 ∧ Aside0 (horariumlaw01_WideText.j1 kq a0 a1 t136 t139 x8_15 = some r) ∧ Aside0 (kq ≤ kj7) ∧ Aside0 (Below w.heap.size w wc))
      case first =>
        have H := HC16.out
        clear HC16
        by_cases c17 : x32_7 = true
        · subst c17
          have H1 : (horariumlaw01_WideText.j1 kj7 a0 a1 t136 t139 (-1)) = some r := by rw [if_pos rfl] at H; exact H
          clear H
          have H := H1
          clear H1
          have H' := Aside0.mk H
          clear H
          go_wp2
          go_meet
          case rel => exact ⟨_, ((-1)), (by first | rfl | (simp; done) | (simp [*]; done)), H', ⟨by have := HJ7.out; first | omega | exact Nat.le_refl _⟩, ⟨by repeat (first | (with_reducible first | exact HB.out | apply below_alloc | apply pw_below_drewN | apply below_drew1) | exact HB.out)⟩⟩
        · replace c17 := Bool.eq_false_iff.mpr c17
          subst c17
          have H1 : (if t139.toList = t142.toList then (horariumlaw01_WideText.j1 kj7 a0 a1 t136 t139 0) else (horariumlaw01_WideText.j1 kj7 a0 a1 t136 t139 1)) = some r := by rw [if_neg (show ¬ (false = true) by decide)] at H; exact H
          clear H
          have H := H1
          clear H1
          by_cases c18 : t139.toList = t142.toList
          · rw [if_pos c18] at H
            have c18b0 : (t139.toList == t142.toList) = true := beq_iff_eq.mpr c18
            have c18b1 : (t139.toList != t142.toList) = false := bne_eq_false_iff_eq.mpr c18
            clear c18
            (first | rw [c18b0] | (simp only [i64_w, i32_w]; rw [c18b0]) | skip)
            have H' := Aside0.mk H
            clear H
            go_wp2
            go_meet
            case rel => exact ⟨_, (0), (by first | rfl | (simp; done) | (simp [*]; done)), H', ⟨by have := HJ7.out; first | omega | exact Nat.le_refl _⟩, ⟨by repeat (first | (with_reducible first | exact HB.out | apply below_alloc | apply pw_below_drewN | apply below_drew1) | exact HB.out)⟩⟩
          · rw [if_neg c18] at H
            have c18b0 : (t139.toList == t142.toList) = false := beq_eq_false_iff_ne.mpr c18
            have c18b1 : (t139.toList != t142.toList) = true := bne_iff_ne.mpr c18
            (first | rw [c18b0] | (simp only [i64_w, i32_w]; rw [c18b0]) | skip)
            have H' := Aside0.mk H
            clear H
            go_wp2
            go_meet
            case rel => exact ⟨_, (1), (by first | rfl | (simp; done) | (simp [*]; done)), H', ⟨by have := HJ7.out; first | omega | exact Nat.le_refl _⟩, ⟨by repeat (first | (with_reducible first | exact HB.out | apply below_alloc | apply pw_below_drewN | apply below_drew1) | exact HB.out)⟩⟩
      case rest =>
        clear HC16
        try clear c1
        try clear p2
        try clear c3
        try clear c4
        try clear c10
        try clear c14
        try clear c14b0
        try clear c14b1
        try clear c15
        try clear c15b0
        try clear c15b1
        try clear c15b2
        try clear c17
        try clear c18
        try clear c18b0
        try clear c18b1
        try clear p2
        obtain ⟨kq, x8_15, rfl, HA, HJ15, HB⟩ := hcut
        cases kq with
        | zero => exact absurd HA.out (by simp [horariumlaw01_WideText.j1])
        | succ kj15 =>
          have H := HA.out
          clear HA
          simp only [horariumlaw01_WideText.j1] at H
          by_cases c19 : t136 = true
          · subst c19
            have H1 : ((wide_Of.f a0).bind fun bt143 => ((wide_Of.f a1).bind fun bt145 => ((wide_Cmp.f kj15 bt143.1 bt143.2 bt145.1 bt145.2).bind fun t147 => (if t147 = x8_15 then (if a0 = 0 then (some (decide ((t139.size : Int) > 0))) else ((wide_Mul.f a0 10).bind fun bt148 => ((wide_Text.f kj15 bt148.1 bt148.2).bind fun t150 => (if t139.size + 1 ≤ 9223372036854775807 then (if t150.toList = (t139 ++ (⟨#[48]⟩ : ByteArray)).toList then (some (decide ((t139.size : Int) > 0))) else (some false)) else (none))))) else (some false))))) = some r := by rw [if_pos rfl] at H; exact H
            clear H
            have H := H1
            clear H1
            replace H := Option.bind_eq_some_iff.mp H
            obtain ⟨⟨t143, t144⟩, A200, H⟩ := H
            replace H : ((wide_Of.f a1).bind fun bt145 => ((wide_Cmp.f kj15 t143 t144 bt145.1 bt145.2).bind fun t147 => (if t147 = x8_15 then (if a0 = 0 then (some (decide ((t139.size : Int) > 0))) else ((wide_Mul.f a0 10).bind fun bt148 => ((wide_Text.f kj15 bt148.1 bt148.2).bind fun t150 => (if t139.size + 1 ≤ 9223372036854775807 then (if t150.toList = (t139 ++ (⟨#[48]⟩ : ByteArray)).toList then (some (decide ((t139.size : Int) > 0))) else (some false)) else (none))))) else (some false)))) = some r := H
            have A20 := Aside0.mk A200
            clear A200
            replace H := Option.bind_eq_some_iff.mp H
            obtain ⟨⟨t145, t146⟩, A210, H⟩ := H
            replace H : ((wide_Cmp.f kj15 t143 t144 t145 t146).bind fun t147 => (if t147 = x8_15 then (if a0 = 0 then (some (decide ((t139.size : Int) > 0))) else ((wide_Mul.f a0 10).bind fun bt148 => ((wide_Text.f kj15 bt148.1 bt148.2).bind fun t150 => (if t139.size + 1 ≤ 9223372036854775807 then (if t150.toList = (t139 ++ (⟨#[48]⟩ : ByteArray)).toList then (some (decide ((t139.size : Int) > 0))) else (some false)) else (none))))) else (some false))) = some r := H
            have A21 := Aside0.mk A210
            clear A210
            replace H := Option.bind_eq_some_iff.mp H
            obtain ⟨t147, A220, H⟩ := H
            replace H : (if t147 = x8_15 then (if a0 = 0 then (some (decide ((t139.size : Int) > 0))) else ((wide_Mul.f a0 10).bind fun bt148 => ((wide_Text.f kj15 bt148.1 bt148.2).bind fun t150 => (if t139.size + 1 ≤ 9223372036854775807 then (if t150.toList = (t139 ++ (⟨#[48]⟩ : ByteArray)).toList then (some (decide ((t139.size : Int) > 0))) else (some false)) else (none))))) else (some false)) = some r := H
            have A22 := Aside0.mk A220
            clear A220
            by_cases c23 : t147 = x8_15
            · rw [if_pos c23] at H
              have c23b0 : (t147 == x8_15) = true := beq_iff_eq.mpr c23
              have c23b1 : (t147 != x8_15) = false := bne_eq_false_iff_eq.mpr c23
              clear c23
              by_cases c24 : a0 = 0
              · rw [if_pos c24] at H
                have c24b0 : (a0 == 0) = true := beq_iff_eq.mpr c24
                have c24b1 : (a0 != 0) = false := bne_eq_false_iff_eq.mpr c24
                clear c24
                obtain rfl := Option.some.inj H
                go_wp2_with (first | (go_at_call 41; (with_reducible refine (wide_Of.calls a0 t143 t144 _ A20.out).mono ?_); rintro e w25 ⟨rfl, hb⟩; have n0_ := Aside0.mk (below_step (by repeat (first | (with_reducible first | exact HB.out | apply below_alloc | apply pw_below_drewN | apply below_drew1) | exact HB.out)) hb); clear HB; have HB := n0_; clear n0_; (try clear hb); (try clear hb2); (try clear hk); (try clear hi)) | (go_at_call 41; (with_reducible refine (wide_Of.calls a1 t145 t146 _ A21.out).mono ?_); rintro e w26 ⟨rfl, hb⟩; have n0_ := Aside0.mk (below_step (by repeat (first | (with_reducible first | exact HB.out | apply below_alloc | apply pw_below_drewN | apply below_drew1) | exact HB.out)) hb); clear HB; have HB := n0_; clear n0_; (try clear hb); (try clear hb2); (try clear hk); (try clear hi)) | (go_at_call 42; (with_reducible refine (wide_Cmp.calls kj15 t143 t144 t145 t146 t147 _ A22.out).mono ?_); rintro e w27 ⟨rfl, hb⟩; have n0_ := Aside0.mk (below_step (by repeat (first | (with_reducible first | exact HB.out | apply below_alloc | apply pw_below_drewN | apply below_drew1) | exact HB.out)) hb); clear HB; have HB := n0_; clear n0_; (try clear hb); (try clear hb2); (try clear hk); (try clear hi)))
                go_ret
                exact ⟨by first | rfl | (simp [errW_none, errW_some] <;> rfl) | (simp [*, errW_none, errW_some] <;> rfl), by repeat (first | (with_reducible first | exact HB.out | apply below_alloc | apply pw_below_drewN | apply below_drew1) | exact HB.out)⟩
              · rw [if_neg c24] at H
                have c24b0 : (a0 == 0) = false := beq_eq_false_iff_ne.mpr c24
                have c24b1 : (a0 != 0) = true := bne_iff_ne.mpr c24
                replace H := Option.bind_eq_some_iff.mp H
                obtain ⟨⟨t148, t149⟩, A280, H⟩ := H
                replace H : ((wide_Text.f kj15 t148 t149).bind fun t150 => (if t139.size + 1 ≤ 9223372036854775807 then (if t150.toList = (t139 ++ (⟨#[48]⟩ : ByteArray)).toList then (some (decide ((t139.size : Int) > 0))) else (some false)) else (none))) = some r := H
                have A28 := Aside0.mk A280
                clear A280
                replace H := Option.bind_eq_some_iff.mp H
                obtain ⟨t150, A290, H⟩ := H
                replace H : (if t139.size + 1 ≤ 9223372036854775807 then (if t150.toList = (t139 ++ (⟨#[48]⟩ : ByteArray)).toList then (some (decide ((t139.size : Int) > 0))) else (some false)) else (none)) = some r := H
                have A29 := Aside0.mk A290
                clear A290
                by_cases c30 : t139.size + 1 ≤ 9223372036854775807
                · rw [if_pos c30] at H
                  have c30b0 := eq_true c30
                  have c30b1 : decide (t139.size + 1 ≤ 9223372036854775807) = true := decide_eq_true c30
                  try have c30b2 : (9223372036854775807 < t139.size + 1) = False := eq_false (Nat.not_lt.2 c30)
                  by_cases c31 : t150.toList = (t139 ++ (⟨#[48]⟩ : ByteArray)).toList
                  · rw [if_pos c31] at H
                    have c31b0 : (t150.toList == (t139 ++ (⟨#[48]⟩ : ByteArray)).toList) = true := beq_iff_eq.mpr c31
                    have c31b1 : (t150.toList != (t139 ++ (⟨#[48]⟩ : ByteArray)).toList) = false := bne_eq_false_iff_eq.mpr c31
                    clear c31
                    obtain rfl := Option.some.inj H
                    go_wp2_with (first | (go_at_call 41; (with_reducible refine (wide_Of.calls a0 t143 t144 _ A20.out).mono ?_); rintro e w32 ⟨rfl, hb⟩; have n0_ := Aside0.mk (below_step (by repeat (first | (with_reducible first | exact HB.out | apply below_alloc | apply pw_below_drewN | apply below_drew1) | exact HB.out)) hb); clear HB; have HB := n0_; clear n0_; (try clear hb); (try clear hb2); (try clear hk); (try clear hi)) | (go_at_call 41; (with_reducible refine (wide_Of.calls a1 t145 t146 _ A21.out).mono ?_); rintro e w33 ⟨rfl, hb⟩; have n0_ := Aside0.mk (below_step (by repeat (first | (with_reducible first | exact HB.out | apply below_alloc | apply pw_below_drewN | apply below_drew1) | exact HB.out)) hb); clear HB; have HB := n0_; clear n0_; (try clear hb); (try clear hb2); (try clear hk); (try clear hi)) | (go_at_call 42; (with_reducible refine (wide_Cmp.calls kj15 t143 t144 t145 t146 t147 _ A22.out).mono ?_); rintro e w34 ⟨rfl, hb⟩; have n0_ := Aside0.mk (below_step (by repeat (first | (with_reducible first | exact HB.out | apply below_alloc | apply pw_below_drewN | apply below_drew1) | exact HB.out)) hb); clear HB; have HB := n0_; clear n0_; (try clear hb); (try clear hb2); (try clear hk); (try clear hi)) | (go_at_call 43; (with_reducible refine (wide_Mul.calls a0 10 t148 t149 _ A28.out).mono ?_); rintro e w35 ⟨rfl, hb⟩; have n0_ := Aside0.mk (below_step (by repeat (first | (with_reducible first | exact HB.out | apply below_alloc | apply pw_below_drewN | apply below_drew1) | exact HB.out)) hb); clear HB; have HB := n0_; clear n0_; (try clear hb); (try clear hb2); (try clear hk); (try clear hi)) | (go_at_call 37; (with_reducible refine (wide_Text.calls kj15 t148 t149 t150 _ A29.out).mono ?_); rintro e w36 ⟨rfl, hb⟩; have n0_ := Aside0.mk (below_step (by repeat (first | (with_reducible first | exact HB.out | apply below_alloc | apply pw_below_drewN | apply below_drew1) | exact HB.out)) hb); clear HB; have HB := n0_; clear n0_; (try clear hb); (try clear hb2); (try clear hk); (try clear hi)))
                    go_ret
                    exact ⟨by first | rfl | (simp [errW_none, errW_some] <;> rfl) | (simp [*, errW_none, errW_some] <;> rfl), by repeat (first | (with_reducible first | exact HB.out | apply below_alloc | apply pw_below_drewN | apply below_drew1) | exact HB.out)⟩
                  · rw [if_neg c31] at H
                    have c31b0 : (t150.toList == (t139 ++ (⟨#[48]⟩ : ByteArray)).toList) = false := beq_eq_false_iff_ne.mpr c31
                    have c31b1 : (t150.toList != (t139 ++ (⟨#[48]⟩ : ByteArray)).toList) = true := bne_iff_ne.mpr c31
                    obtain rfl := Option.some.inj H
                    go_wp2_with (first | (go_at_call 41; (with_reducible refine (wide_Of.calls a0 t143 t144 _ A20.out).mono ?_); rintro e w37 ⟨rfl, hb⟩; have n0_ := Aside0.mk (below_step (by repeat (first | (with_reducible first | exact HB.out | apply below_alloc | apply pw_below_drewN | apply below_drew1) | exact HB.out)) hb); clear HB; have HB := n0_; clear n0_; (try clear hb); (try clear hb2); (try clear hk); (try clear hi)) | (go_at_call 41; (with_reducible refine (wide_Of.calls a1 t145 t146 _ A21.out).mono ?_); rintro e w38 ⟨rfl, hb⟩; have n0_ := Aside0.mk (below_step (by repeat (first | (with_reducible first | exact HB.out | apply below_alloc | apply pw_below_drewN | apply below_drew1) | exact HB.out)) hb); clear HB; have HB := n0_; clear n0_; (try clear hb); (try clear hb2); (try clear hk); (try clear hi)) | (go_at_call 42; (with_reducible refine (wide_Cmp.calls kj15 t143 t144 t145 t146 t147 _ A22.out).mono ?_); rintro e w39 ⟨rfl, hb⟩; have n0_ := Aside0.mk (below_step (by repeat (first | (with_reducible first | exact HB.out | apply below_alloc | apply pw_below_drewN | apply below_drew1) | exact HB.out)) hb); clear HB; have HB := n0_; clear n0_; (try clear hb); (try clear hb2); (try clear hk); (try clear hi)) | (go_at_call 43; (with_reducible refine (wide_Mul.calls a0 10 t148 t149 _ A28.out).mono ?_); rintro e w40 ⟨rfl, hb⟩; have n0_ := Aside0.mk (below_step (by repeat (first | (with_reducible first | exact HB.out | apply below_alloc | apply pw_below_drewN | apply below_drew1) | exact HB.out)) hb); clear HB; have HB := n0_; clear n0_; (try clear hb); (try clear hb2); (try clear hk); (try clear hi)) | (go_at_call 37; (with_reducible refine (wide_Text.calls kj15 t148 t149 t150 _ A29.out).mono ?_); rintro e w41 ⟨rfl, hb⟩; have n0_ := Aside0.mk (below_step (by repeat (first | (with_reducible first | exact HB.out | apply below_alloc | apply pw_below_drewN | apply below_drew1) | exact HB.out)) hb); clear HB; have HB := n0_; clear n0_; (try clear hb); (try clear hb2); (try clear hk); (try clear hi)))
                    go_ret
                    exact ⟨by first | rfl | (simp [errW_none, errW_some] <;> rfl) | (simp [*, errW_none, errW_some] <;> rfl), by repeat (first | (with_reducible first | exact HB.out | apply below_alloc | apply pw_below_drewN | apply below_drew1) | exact HB.out)⟩
                · rw [if_neg c30] at H
                  exact absurd H (by simp)
            · rw [if_neg c23] at H
              have c23b0 : (t147 == x8_15) = false := beq_eq_false_iff_ne.mpr c23
              have c23b1 : (t147 != x8_15) = true := bne_iff_ne.mpr c23
              obtain rfl := Option.some.inj H
              go_wp2_with (first | (go_at_call 41; (with_reducible refine (wide_Of.calls a0 t143 t144 _ A20.out).mono ?_); rintro e w42 ⟨rfl, hb⟩; have n0_ := Aside0.mk (below_step (by repeat (first | (with_reducible first | exact HB.out | apply below_alloc | apply pw_below_drewN | apply below_drew1) | exact HB.out)) hb); clear HB; have HB := n0_; clear n0_; (try clear hb); (try clear hb2); (try clear hk); (try clear hi)) | (go_at_call 41; (with_reducible refine (wide_Of.calls a1 t145 t146 _ A21.out).mono ?_); rintro e w43 ⟨rfl, hb⟩; have n0_ := Aside0.mk (below_step (by repeat (first | (with_reducible first | exact HB.out | apply below_alloc | apply pw_below_drewN | apply below_drew1) | exact HB.out)) hb); clear HB; have HB := n0_; clear n0_; (try clear hb); (try clear hb2); (try clear hk); (try clear hi)) | (go_at_call 42; (with_reducible refine (wide_Cmp.calls kj15 t143 t144 t145 t146 t147 _ A22.out).mono ?_); rintro e w44 ⟨rfl, hb⟩; have n0_ := Aside0.mk (below_step (by repeat (first | (with_reducible first | exact HB.out | apply below_alloc | apply pw_below_drewN | apply below_drew1) | exact HB.out)) hb); clear HB; have HB := n0_; clear n0_; (try clear hb); (try clear hb2); (try clear hk); (try clear hi)))
              go_ret
              exact ⟨by first | rfl | (simp [errW_none, errW_some] <;> rfl) | (simp [*, errW_none, errW_some] <;> rfl), by repeat (first | (with_reducible first | exact HB.out | apply below_alloc | apply pw_below_drewN | apply below_drew1) | exact HB.out)⟩
          · replace c19 := Bool.eq_false_iff.mpr c19
            subst c19
            have H1 : (some false) = some r := by rw [if_neg (show ¬ (false = true) by decide)] at H; exact H
            clear H
            have H := H1
            clear H1
            obtain rfl := Option.some.inj H
            go_wp2
            go_ret
            exact ⟨by first | rfl | (simp [errW_none, errW_some] <;> rfl) | (simp [*, errW_none, errW_some] <;> rfl), by repeat (first | (with_reducible first | exact HB.out | apply below_alloc | apply pw_below_drewN | apply below_drew1) | exact HB.out)⟩

/-- THE ONE PURE STATEMENT of horariumlaw01_WideText: yours. -/
def horariumlaw01_WideText.Pure : Prop := ∀ (a0 : Int) (a1 : Int), (Lit.int .u64 a0).wf = true → (Lit.int .u64 a1).wf = true → ∃ k, horariumlaw01_WideText.f k a0 a1 = some true
theorem horariumlaw01_WideText.walk (P : horariumlaw01_WideText.Pure) (a0 : Int) (a1 : Int) (w : World) (w0 : (Lit.int .u64 a0).wf = true) (w1 : (Lit.int .u64 a1).wf = true) :
    Calls Try.prog 10 #[.int .u64 a0, .int .u64 a1] w fun e w' => e = .returned (.bool true) ∧ Below w.heap.size w w' := by
  obtain ⟨k, h⟩ := P a0 a1 w0 w1
  refine (horariumlaw01_WideText.calls k a0 a1 true w h).mono ?_
  rintro e w' ⟨rfl, hd⟩
  exact ⟨rfl, hd⟩

end Go.Proofs.Ytbkjoojfpmokaaa.PWideText
