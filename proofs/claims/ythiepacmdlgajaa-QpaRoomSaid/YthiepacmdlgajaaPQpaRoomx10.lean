-- Made by px.py (a program of this session, over the kit's printer) out of the translation. Not trusted: Lean checks it.
import Derived.Test.YthiepacmdlgajaaPQpaRoomx0
import Derived.Test.YthiepacmdlgajaaPQpaRoomx4
import Derived.Test.YthiepacmdlgajaaPQpaRoomx5
import Derived.Test.YthiepacmdlgajaaPQpaRoomx6
import Derived.Test.YthiepacmdlgajaaPQpaRoomx8
import Derived.Test.YthiepacmdlgajaaPQpaRoomx9
namespace Go.Proofs.Ythiepacmdlgajaa.PQpaRoom
open Go.RowKit Go.Proofs.YthiepacmdlgajaaW.PrintWords Go.Proofs.YthiepacmdlgajaaW.PrintLast Go.Proofs.YthiepacmdlgajaaW.PrintMore
attribute [local go_sem] max2_int min2_int max_two min_two max_three min_three max_four min_four   -- for this text's walks alone
set_option linter.unusedVariables false
set_option linter.unusedSimpArgs false

/-! ### horariumlaw12_QpaRoom: function 12 -/
mutual
def horariumlaw12_QpaRoom.j0 : Nat → Bool → List (S28) → Int → Int → Int → Option (Bool)
  | 0, _, _, _, _, _ => none
  | k + 1, x5, x6, x193000, x193001, x193002 => (horariumlaw12_made.f k (([(⟨x193000, x193001, x193002⟩ : S31)] : List (S31)))).bind fun t203 => (if 0 < (t203.length : Int) then ((qpa_Room.f k x6 ((rd_T28 t203 0).f0) ((rd_T28 t203 0).f1) ((rd_T28 t203 0).f2) ((rd_T28 t203 0).f3) ((rd_T28 t203 0).f4)).bind fun t208 => ((horariumref12_Room.f k x6 ((rd_T28 t203 0).f0) ((rd_T28 t203 0).f1) ((rd_T28 t203 0).f2) ((rd_T28 t203 0).f3) ((rd_T28 t203 0).f4)).bind fun t209 => (if t208 = t209 then (if t208 < 0 then (horariumlaw12_QpaRoom.j1 k x5 x6 t208 true ((rd_T28 t203 0).f0) ((rd_T28 t203 0).f1) ((rd_T28 t203 0).f2) ((rd_T28 t203 0).f3) ((rd_T28 t203 0).f4)) else (horariumlaw12_QpaRoom.j1 k x5 x6 t208 (decide (t208 > ((rd_T28 t203 0).f2))) ((rd_T28 t203 0).f0) ((rd_T28 t203 0).f1) ((rd_T28 t203 0).f2) ((rd_T28 t203 0).f3) ((rd_T28 t203 0).f4))) else (horariumlaw12_QpaRoom.j1 k x5 x6 t208 true ((rd_T28 t203 0).f0) ((rd_T28 t203 0).f1) ((rd_T28 t203 0).f2) ((rd_T28 t203 0).f3) ((rd_T28 t203 0).f4))))) else (none))
def horariumlaw12_QpaRoom.j1 : Nat → Bool → List (S28) → Int → Bool → Int → Int → Int → Int → Int → Option (Bool)
  | 0, _, _, _, _, _, _, _, _, _ => none
  | k + 1, x5, x6, x8, x39, x208000, x208001, x208002, x208003, x208004 => if x39 = true then (some false) else ((horariumref12_Test.f k x6).bind fun t210 => (if t210 = 0 then (if x8 = x208002 then (some x5) else (if x5 = true then ((some (([] : List (S28)) : List (S28))).bind fun y211 => (if y211.length + x6.length < 3518437208883 then ((some (y211 ++ x6 : List (S28))).bind fun y214 => ((some (([(⟨x208000, wrap64 (x8 + 1), x208002, x208003, x208004⟩ : S28)] : List (S28)) : List (S28))).bind fun y217 => (if y214.length + y217.length < 3518437208883 then ((horariumref12_Test.f k (y214 ++ y217)).bind fun t223 => (some (t223 == 17))) else (none)))) else (none))) else (some false))) else (if x5 = true then (some (x8 == 0)) else (some false))))
end
def horariumlaw12_QpaRoom.f (k : Nat) (l0 : List (S31)) (a1_0 : Int) (a1_1 : Int) (a1_2 : Int) : Option (Bool) := (horariumlaw12_awake.f k).bind fun t193 => ((horariumlaw12_made.f k l0).bind fun t194 => (if (t194.length : Int) > 5 then (if 5 ≤ (t194.length : Int) then (horariumlaw12_QpaRoom.j0 k t193 (t194.take (5 : Int).toNat) a1_0 a1_1 a1_2) else (none)) else (horariumlaw12_QpaRoom.j0 k t193 t194 a1_0 a1_1 a1_2)))
theorem horariumlaw12_QpaRoom.mono_l : ∀ k, (∀ y0 y1 y2 y3 y4, LeO (horariumlaw12_QpaRoom.j0 k y0 y1 y2 y3 y4) (horariumlaw12_QpaRoom.j0 (k + 1) y0 y1 y2 y3 y4)) ∧ (∀ y0 y1 y2 y3 y4 y5 y6 y7 y8, LeO (horariumlaw12_QpaRoom.j1 k y0 y1 y2 y3 y4 y5 y6 y7 y8) (horariumlaw12_QpaRoom.j1 (k + 1) y0 y1 y2 y3 y4 y5 y6 y7 y8))
  | 0 => ⟨fun _ _ _ _ _ r h => by simp [horariumlaw12_QpaRoom.j0] at h, fun _ _ _ _ _ _ _ _ _ r h => by simp [horariumlaw12_QpaRoom.j1] at h⟩
  | k + 1 => by
    obtain ⟨ih0, ih1⟩ := horariumlaw12_QpaRoom.mono_l k
    refine ⟨?_, ?_⟩
    · intro y0 y1 y2 y3 y4
      unfold horariumlaw12_QpaRoom.j0
      repeat' first
      | (with_reducible exact ih0 _ _ _ _ _)
      | (with_reducible exact ih1 _ _ _ _ _ _ _ _ _)
      | (with_reducible exact horariumlaw12_awake.mono _)
      | (with_reducible exact horariumlaw12_made.mono _ _)
      | (with_reducible exact horariumref12_Room.mono _ _ _ _ _ _ _)
      | (with_reducible exact horariumref12_Test.mono _ _)
      | (with_reducible exact qpa_Room.mono _ _ _ _ _ _ _)
      | (with_reducible exact LeO.refl _)
      | (with_reducible exact LeO.none _)
      | (with_reducible refine LeO.ite ?_ ?_)
      | (with_reducible refine LeO.bind ?_ (fun _ => ?_))
      | exact ih0 _ _ _ _ _
      | exact ih1 _ _ _ _ _ _ _ _ _
      | exact horariumlaw12_awake.mono _
      | exact horariumlaw12_made.mono _ _
      | exact horariumref12_Room.mono _ _ _ _ _ _ _
      | exact horariumref12_Test.mono _ _
      | exact qpa_Room.mono _ _ _ _ _ _ _
      | exact LeO.none _
      | refine LeO.ite ?_ ?_
      | refine LeO.bind ?_ (fun _ => ?_)
    · intro y0 y1 y2 y3 y4 y5 y6 y7 y8
      unfold horariumlaw12_QpaRoom.j1
      repeat' first
      | (with_reducible exact ih0 _ _ _ _ _)
      | (with_reducible exact ih1 _ _ _ _ _ _ _ _ _)
      | (with_reducible exact horariumlaw12_awake.mono _)
      | (with_reducible exact horariumlaw12_made.mono _ _)
      | (with_reducible exact horariumref12_Room.mono _ _ _ _ _ _ _)
      | (with_reducible exact horariumref12_Test.mono _ _)
      | (with_reducible exact qpa_Room.mono _ _ _ _ _ _ _)
      | (with_reducible exact LeO.refl _)
      | (with_reducible exact LeO.none _)
      | (with_reducible refine LeO.ite ?_ ?_)
      | (with_reducible refine LeO.bind ?_ (fun _ => ?_))
      | exact ih0 _ _ _ _ _
      | exact ih1 _ _ _ _ _ _ _ _ _
      | exact horariumlaw12_awake.mono _
      | exact horariumlaw12_made.mono _ _
      | exact horariumref12_Room.mono _ _ _ _ _ _ _
      | exact horariumref12_Test.mono _ _
      | exact qpa_Room.mono _ _ _ _ _ _ _
      | exact LeO.none _
      | refine LeO.ite ?_ ?_
      | refine LeO.bind ?_ (fun _ => ?_)
theorem horariumlaw12_QpaRoom.mono : ∀ a0 a1 a2 a3 k, LeO (horariumlaw12_QpaRoom.f k a0 a1 a2 a3) (horariumlaw12_QpaRoom.f (k + 1) a0 a1 a2 a3) := by
  intro a0 a1 a2 a3 k
  obtain ⟨ih0, ih1⟩ := horariumlaw12_QpaRoom.mono_l k
  unfold horariumlaw12_QpaRoom.f
  repeat' first
      | (with_reducible exact ih0 _ _ _ _ _)
      | (with_reducible exact ih1 _ _ _ _ _ _ _ _ _)
      | (with_reducible exact horariumlaw12_awake.mono _)
      | (with_reducible exact horariumlaw12_made.mono _ _)
      | (with_reducible exact horariumref12_Room.mono _ _ _ _ _ _ _)
      | (with_reducible exact horariumref12_Test.mono _ _)
      | (with_reducible exact qpa_Room.mono _ _ _ _ _ _ _)
      | (with_reducible exact LeO.refl _)
      | (with_reducible exact LeO.none _)
      | (with_reducible refine LeO.ite ?_ ?_)
      | (with_reducible refine LeO.bind ?_ (fun _ => ?_))
      | exact ih0 _ _ _ _ _
      | exact ih1 _ _ _ _ _ _ _ _ _
      | exact horariumlaw12_awake.mono _
      | exact horariumlaw12_made.mono _ _
      | exact horariumref12_Room.mono _ _ _ _ _ _ _
      | exact horariumref12_Test.mono _ _
      | exact qpa_Room.mono _ _ _ _ _ _ _
      | exact LeO.none _
      | refine LeO.ite ?_ ?_
      | refine LeO.bind ?_ (fun _ => ?_)
def horariumlaw12_QpaRoom.T14 : Bool × List (List Nat × List Nat) := (true, [([], []), ([0], [0]), ([1], [1]), ([1], [1]), ([2, 3, 1, 1], [1, 2, 3]), ([1], [1]), ([5, 1], [1, 5]), ([4, 6, 4, 1], [1, 4, 6]), ([7, 7, 1], [1, 7]), ([8, 1], [1, 8]), ([1, 9], [1, 9]), ([10, 8, 0, 1, 2, 3, 4, 5, 6, 7, 8, 9, 10], [10])])
def horariumlaw12_QpaRoom.B14 : List Nat := [0, 1, 3, 3, 15, 3, 35, 127, 255, 511, 1023, 2047]
theorem horariumlaw12_QpaRoom.tab14 : rtab .any (opsOf Try.f12 14) = horariumlaw12_QpaRoom.T14 := by kernel_rfl
theorem horariumlaw12_QpaRoom.bits14 : waitsOk horariumlaw12_QpaRoom.T14.2 horariumlaw12_QpaRoom.B14 = true := by kernel_rfl
set_option maxHeartbeats 8000000 in
set_option maxRecDepth 100000 in
theorem horariumlaw12_QpaRoom.calls (k : Nat) (A0 : Option Addr) (c0 : Nat) (l0 : List (S31)) (a1_0 : Int) (a1_1 : Int) (a1_2 : Int) (r : Bool) (w : World) (hr0 : Kd.C k31 w A0 l0.length l0) (hc0 : l0.length ≤ c0) (h : horariumlaw12_QpaRoom.f k l0 a1_0 a1_1 a1_2 = some r) (hrt : r = true) :
    Calls Try.prog 12 #[.slice A0 l0.length c0, .agg #[.int .i64 a1_0, .int .i64 a1_1, .int .i64 a1_2]] w fun e w' => e = .returned (.bool r) ∧ Below w.heap.size w w' := by
  have HRT := Lib.hid hrt
  clear hrt
  have hu31 := Try.underlying31
  have hu28 := Try.underlying28
  have HR0 := Aside0.mk hr0
  have HC0 := Aside0.mk hc0
  clear hr0 hc0
  have HB := Aside0.mk (Below.refl w.heap.size w)
  have H : ((horariumlaw12_awake.f k).bind fun t193 => ((horariumlaw12_made.f k l0).bind fun t194 => (if (t194.length : Int) > 5 then (if 5 ≤ (t194.length : Int) then (horariumlaw12_QpaRoom.j0 k t193 (t194.take (5 : Int).toNat) a1_0 a1_1 a1_2) else (none)) else (horariumlaw12_QpaRoom.j0 k t193 t194 a1_0 a1_1 a1_2)))) = some r := h
  clear h
  replace H := Option.bind_eq_some_iff.mp H
  obtain ⟨t193, A30, H⟩ := H
  replace H : ((horariumlaw12_made.f k l0).bind fun t194 => (if (t194.length : Int) > 5 then (if 5 ≤ (t194.length : Int) then (horariumlaw12_QpaRoom.j0 k t193 (t194.take (5 : Int).toNat) a1_0 a1_1 a1_2) else (none)) else (horariumlaw12_QpaRoom.j0 k t193 t194 a1_0 a1_1 a1_2))) = some r := H
  have A3 := Aside0.mk A30
  clear A30
  replace H := Option.bind_eq_some_iff.mp H
  obtain ⟨t194, A40, H⟩ := H
  replace H : (if (t194.length : Int) > 5 then (if 5 ≤ (t194.length : Int) then (horariumlaw12_QpaRoom.j0 k t193 (t194.take (5 : Int).toNat) a1_0 a1_1 a1_2) else (none)) else (horariumlaw12_QpaRoom.j0 k t193 t194 a1_0 a1_1 a1_2)) = some r := H
  have A4 := Aside0.mk A40
  clear A40
  have HC5 := Aside0.mk H
  clear H
  go_enter Try.func12, Try.ntmps12
  go_upto_if 14 with (first | ((with_reducible refine gate_dst (N := 3) rfl ?_); (try (refine gate_guard (by rfl) ?_; dsimp only)); refine box_event ?hg (N := 3) ?hd (cs := #[.int .i64 a1_0, .int .i64 a1_1, .int .i64 a1_2]) (t := 31) ?hr ?_; (case hd => rfl); (case hg => rfl); (case hr => first | (go_simp; done) | (go_simp; rfl)); intro gb192 hg w6 hbox hb; have n0_ := Aside0.mk (below_step (by repeat (first | (with_reducible first | exact HB.out | apply below_alloc | apply pw_below_drewN | apply below_drew1) | exact HB.out)) hb); have n1_ := Aside0.mk (hbox); have n2_ := Aside0.mk ((by rw [hg]; exact (below_size (by repeat (first | (with_reducible first | exact HB.out | apply below_alloc | apply pw_below_drewN | apply below_drew1) | exact HB.out))) : w.heap.size ≤ gb192)); have n3_ := Aside0.mk ((by rw [hg]; exact (below_size (by repeat (first | (with_reducible first | exact HB.out | apply below_alloc | apply pw_below_drewN | apply below_drew1) | exact HB.out))) : w.heap.size ≤ gb192)); clear HB; have HB := n0_; have BK192 := n1_; have GW192 := n2_; have GE192 := n3_; clear n0_ n1_ n2_ n3_; clear hb hbox hg) | ((with_reducible refine gate_callee (f := 27) rfl ?_); refine goesL_ (some 9) rfl rfl Try.func27 (by kernel_rfl) rfl #[] rfl (by (try simp only [List.map_toArray, List.map_cons, List.map_nil]); first | done | rfl | (simp only [List.length_drop, List.length_take]; rfl)) ?_; (with_reducible refine (horariumlaw12_awake.calls k  t193 _ A3.out).mono ?_); rintro e w7 ⟨rfl, hb⟩; refine ⟨_, rfl, ?_⟩; have n0_ := Aside0.mk (blk_below (g := gb192) (o := .cells #[.int .i64 a1_0, .int .i64 a1_1, .int .i64 a1_2] 31 (0, 0)) (by (with_reducible repeat (first | refine blk_drewN ?_ _ | refine blk_drew ?_ | refine blk_alloc ?_ _)); exact BK192.out) hb); have n1_ := Aside0.mk (below_step (by repeat (first | (with_reducible first | exact HB.out | apply below_alloc | apply pw_below_drewN | apply below_drew1 | refine below_set ?_ GE192.out) | exact HB.out)) hb); clear BK192; clear HB; have BK192 := n0_; have HB := n1_; clear n0_ n1_; (try clear hb); (try clear hb2); (try clear hk); (try clear hi)) | ((with_reducible refine gate_callee (f := 28) rfl ?_); refine goesL_ (some 11) rfl rfl Try.func28 (by kernel_rfl) rfl #[.slice A0 l0.length c0] rfl (by (try simp only [List.map_toArray, List.map_cons, List.map_nil]); first | done | rfl | (simp only [List.length_drop, List.length_take]; rfl)) ?_; (with_reducible refine (horariumlaw12_made.calls k _ _ l0 t194 _ ?side1 ?side2 A4.out).mono ?_); (case side1 => repeat (first | exact (Kd.C_below HR0.out HB.out) | (with_reducible refine Kd.C_alloc ?_ _) | (with_reducible refine Kd.C_drewN ?_ _) | (with_reducible refine Kd.C_drew ?_))); (case side2 => exact HC0.out); rintro e w8 ⟨v195, rfl, ho0, hb⟩; refine ⟨_, rfl, ?_⟩; have n0_ := Aside0.mk (Kd.R_lower ho0 (below_size (by repeat (first | (with_reducible first | exact HB.out | apply below_alloc | apply pw_below_drewN | apply below_drew1 | refine below_set ?_ GE192.out) | exact HB.out)))); have n1_ := Aside0.mk (blk_below (g := gb192) (o := .cells #[.int .i64 a1_0, .int .i64 a1_1, .int .i64 a1_2] 31 (0, 0)) (by (with_reducible repeat (first | refine blk_drewN ?_ _ | refine blk_drew ?_ | refine blk_alloc ?_ _)); exact BK192.out) hb); have n2_ := Aside0.mk (below_step (by repeat (first | (with_reducible first | exact HB.out | apply below_alloc | apply pw_below_drewN | apply below_drew1 | refine below_set ?_ GE192.out) | exact HB.out)) hb); clear BK192; clear HB; have HO196 := n0_; have BK192 := n1_; have HB := n2_; clear n0_ n1_ n2_; (try clear hb); (try clear hb2); (try clear hk); (try clear hi); (try clear ho0); obtain ⟨Ao9, co9, eo9⟩ := Kd.R_slice HO196.out; subst eo9))
  (try simp only [Act.put, List.setIfInBounds_toArray, List.set_cons_zero, List.set_cons_succ])
  go_cut [6] (fun v6 wc => ∃ (kq : Nat) (x6_4 : List (S28)), Aside0 (horariumlaw12_QpaRoom.j0 kq t193 x6_4 a1_0 a1_1 a1_2 = some r) ∧ Aside0 (kq ≤ k) ∧ Aside0 (Kd.R k28 28 wc w.heap.size (fun _ => True) v6 x6_4) ∧ Aside0 (wc.heap[gb192]? = some (.cells #[.int .i64 a1_0, .int .i64 a1_1, .int .i64 a1_2] 31 (0, 0))) ∧ Aside0 (Below w.heap.size w wc))
  case first =>
    have H := HC5.out
    clear HC5
    by_cases c10 : (t194.length : Int) > 5
    · rw [if_pos c10] at H
      have c10b0 : decide (5 < (t194.length : Int)) = true := decide_eq_true c10
      have c10b1 : decide (5 < t194.length) = true := decide_eq_true (by omega)
      clear c10
      (first | rw [c10b0] | (simp only [i64_w, i32_w]; rw [c10b0]) | skip)
      by_cases c11 : 5 ≤ (t194.length : Int)
      · rw [if_pos c11] at H
        have c11b0 := eq_true c11
        have c11b1 : decide (5 ≤ (t194.length : Int)) = true := decide_eq_true c11
        clear c11
        obtain ⟨y197, hy197⟩ : ∃ y_ : List (S28), y_ = (t194.take (5 : Int).toNat) := ⟨_, rfl⟩
        replace H : (horariumlaw12_QpaRoom.j0 k t193 y197 a1_0 a1_1 a1_2) = some r := by first | (rw [hy197]; with_reducible exact H) | (have H2_ := (Option.bind_some _ _).symm.trans H; rw [hy197]; with_reducible exact H2_) | (have H2_ := (Option.bind_some _ _).symm.trans H; with_reducible exact H2_) | with_reducible exact H | (rw [hy197]; exact H) | exact H
        have Ny197 := Aside0.mk hy197
        clear hy197
        have H' := Aside0.mk H
        clear H
        have q12 : (5 : Int) ≤ ((t194.length : Int) : Int) := of_decide_eq_true (by first | (with_reducible assumption) | assumption)
        obtain ⟨i012, hi012, _, hsz12, _⟩ := info_parts info28
        have hcut12 := cut_to (P := Try.prog) 24 28 .i64 Try.underlying24 hi012 Ao9 t194.length co9 5 (by omega) q12 (Kd.R_reads' HO196.out).2.1
        have hr12 := Kd.R_take (m := (5 : Int).toNat) HO196.out (by omega)
        have hy12 : y197.length = (5 : Int).toNat := (by rw [Ny197.out, List.length_take]; omega)
        rw [← Ny197.out] at hr12
        rw [← hy12] at hr12 hcut12
        clear hy12 hi012 hsz12 HO196
        have HO199 := Aside0.mk hr12
        clear hr12
        replace q12 := eq_true q12
        go_wp2
        go_meet
        case rel => exact ⟨_, (y197), H', ⟨by first | omega | exact Nat.le_refl _⟩, ⟨by (with_reducible repeat (first | apply Kd.R_alloc | apply Kd.R_drewN | apply Kd.R_drew)); exact HO199.out⟩, ⟨by (with_reducible repeat (first | refine blk_drewN ?_ _ | refine blk_drew ?_ | refine blk_alloc ?_ _)); exact BK192.out⟩, ⟨by repeat (first | (with_reducible first | exact HB.out | apply below_alloc | apply pw_below_drewN | apply below_drew1 | refine below_set ?_ GE192.out) | exact HB.out)⟩⟩
      · rw [if_neg c11] at H
        exact absurd H (by simp)
    · rw [if_neg c10] at H
      have c10b0 : decide (5 < (t194.length : Int)) = false := decide_eq_false c10
      have c10b1 : decide (5 < t194.length) = false := decide_eq_false (by omega)
      clear c10
      (first | rw [c10b0] | (simp only [i64_w, i32_w]; rw [c10b0]) | skip)
      have H' := Aside0.mk H
      clear H
      go_wp2
      go_meet
      case rel => exact ⟨_, (t194), H', ⟨by first | omega | exact Nat.le_refl _⟩, ⟨by (with_reducible repeat (first | apply Kd.R_alloc | apply Kd.R_drewN | apply Kd.R_drew)); exact HO196.out⟩, ⟨by (with_reducible repeat (first | refine blk_drewN ?_ _ | refine blk_drew ?_ | refine blk_alloc ?_ _)); exact BK192.out⟩, ⟨by repeat (first | (with_reducible first | exact HB.out | apply below_alloc | apply pw_below_drewN | apply below_drew1 | refine below_set ?_ GE192.out) | exact HB.out)⟩⟩
  case rest =>
    clear HC5
    try clear c1
    try clear q1
    try clear c2
    try clear p2
    try clear c10
    try clear c10b0
    try clear c10b1
    try clear c11
    try clear c11b0
    try clear c11b1
    try clear c12
    try clear q12
    try clear q12
    obtain ⟨kq, x6_4, HA, HJ4, HO_6, BK192, HB⟩ := hcut
    cases kq with
    | zero => exact absurd HA.out (by simp [horariumlaw12_QpaRoom.j0])
    | succ kj4 =>
      have H := HA.out
      clear HA
      simp only [horariumlaw12_QpaRoom.j0] at H
      obtain ⟨y200, hy200⟩ : ∃ y_ : List (S31), y_ = (([(⟨a1_0, a1_1, a1_2⟩ : S31)] : List (S31))) := ⟨_, rfl⟩
      replace H : ((horariumlaw12_made.f kj4 y200).bind fun t203 => (if 0 < (t203.length : Int) then ((qpa_Room.f kj4 x6_4 ((rd_T28 t203 0).f0) ((rd_T28 t203 0).f1) ((rd_T28 t203 0).f2) ((rd_T28 t203 0).f3) ((rd_T28 t203 0).f4)).bind fun t208 => ((horariumref12_Room.f kj4 x6_4 ((rd_T28 t203 0).f0) ((rd_T28 t203 0).f1) ((rd_T28 t203 0).f2) ((rd_T28 t203 0).f3) ((rd_T28 t203 0).f4)).bind fun t209 => (if t208 = t209 then (if t208 < 0 then (horariumlaw12_QpaRoom.j1 kj4 t193 x6_4 t208 true ((rd_T28 t203 0).f0) ((rd_T28 t203 0).f1) ((rd_T28 t203 0).f2) ((rd_T28 t203 0).f3) ((rd_T28 t203 0).f4)) else (horariumlaw12_QpaRoom.j1 kj4 t193 x6_4 t208 (decide (t208 > ((rd_T28 t203 0).f2))) ((rd_T28 t203 0).f0) ((rd_T28 t203 0).f1) ((rd_T28 t203 0).f2) ((rd_T28 t203 0).f3) ((rd_T28 t203 0).f4))) else (horariumlaw12_QpaRoom.j1 kj4 t193 x6_4 t208 true ((rd_T28 t203 0).f0) ((rd_T28 t203 0).f1) ((rd_T28 t203 0).f2) ((rd_T28 t203 0).f3) ((rd_T28 t203 0).f4))))) else (none))) = some r := by first | (rw [hy200]; with_reducible exact H) | (have H2_ := (Option.bind_some _ _).symm.trans H; rw [hy200]; with_reducible exact H2_) | (have H2_ := (Option.bind_some _ _).symm.trans H; with_reducible exact H2_) | with_reducible exact H | (rw [hy200]; exact H) | exact H
      have Ny200 := Aside0.mk hy200
      clear hy200
      replace H := Option.bind_eq_some_iff.mp H
      obtain ⟨t203, A130, H⟩ := H
      replace H : (if 0 < (t203.length : Int) then ((qpa_Room.f kj4 x6_4 ((rd_T28 t203 0).f0) ((rd_T28 t203 0).f1) ((rd_T28 t203 0).f2) ((rd_T28 t203 0).f3) ((rd_T28 t203 0).f4)).bind fun t208 => ((horariumref12_Room.f kj4 x6_4 ((rd_T28 t203 0).f0) ((rd_T28 t203 0).f1) ((rd_T28 t203 0).f2) ((rd_T28 t203 0).f3) ((rd_T28 t203 0).f4)).bind fun t209 => (if t208 = t209 then (if t208 < 0 then (horariumlaw12_QpaRoom.j1 kj4 t193 x6_4 t208 true ((rd_T28 t203 0).f0) ((rd_T28 t203 0).f1) ((rd_T28 t203 0).f2) ((rd_T28 t203 0).f3) ((rd_T28 t203 0).f4)) else (horariumlaw12_QpaRoom.j1 kj4 t193 x6_4 t208 (decide (t208 > ((rd_T28 t203 0).f2))) ((rd_T28 t203 0).f0) ((rd_T28 t203 0).f1) ((rd_T28 t203 0).f2) ((rd_T28 t203 0).f3) ((rd_T28 t203 0).f4))) else (horariumlaw12_QpaRoom.j1 kj4 t193 x6_4 t208 true ((rd_T28 t203 0).f0) ((rd_T28 t203 0).f1) ((rd_T28 t203 0).f2) ((rd_T28 t203 0).f3) ((rd_T28 t203 0).f4))))) else (none)) = some r := H
      have A13 := Aside0.mk A130
      clear A130
      by_cases c14 : 0 < (t203.length : Int)
      · rw [if_pos c14] at H
        have c14b0 : decide (0 < (t203.length : Int)) = true := decide_eq_true c14
        have c14b1 : decide (0 < t203.length) = true := decide_eq_true (by omega)
        clear c14
        replace H := Option.bind_eq_some_iff.mp H
        obtain ⟨t208, A150, H⟩ := H
        replace H : ((horariumref12_Room.f kj4 x6_4 ((rd_T28 t203 0).f0) ((rd_T28 t203 0).f1) ((rd_T28 t203 0).f2) ((rd_T28 t203 0).f3) ((rd_T28 t203 0).f4)).bind fun t209 => (if t208 = t209 then (if t208 < 0 then (horariumlaw12_QpaRoom.j1 kj4 t193 x6_4 t208 true ((rd_T28 t203 0).f0) ((rd_T28 t203 0).f1) ((rd_T28 t203 0).f2) ((rd_T28 t203 0).f3) ((rd_T28 t203 0).f4)) else (horariumlaw12_QpaRoom.j1 kj4 t193 x6_4 t208 (decide (t208 > ((rd_T28 t203 0).f2))) ((rd_T28 t203 0).f0) ((rd_T28 t203 0).f1) ((rd_T28 t203 0).f2) ((rd_T28 t203 0).f3) ((rd_T28 t203 0).f4))) else (horariumlaw12_QpaRoom.j1 kj4 t193 x6_4 t208 true ((rd_T28 t203 0).f0) ((rd_T28 t203 0).f1) ((rd_T28 t203 0).f2) ((rd_T28 t203 0).f3) ((rd_T28 t203 0).f4)))) = some r := H
        have A15 := Aside0.mk A150
        clear A150
        have HC16 := Aside0.mk H
        clear H
        have hcz17_0 : wc.cell? ⟨gb192, 0, none⟩ = some (.int .i64 a1_0) := (blk_cell BK192.out 0).trans rfl
        have hcz17_1 : wc.cell? ⟨gb192, 1, none⟩ = some (.int .i64 a1_1) := (blk_cell BK192.out 1).trans rfl
        have hcz17_2 : wc.cell? ⟨gb192, 2, none⟩ = some (.int .i64 a1_2) := (blk_cell BK192.out 2).trans rfl
        have hfz17_0 := blk_frozen BK192.out 0
        have hfz17_1 := blk_frozen BK192.out 1
        have hfz17_2 := blk_frozen BK192.out 2
        go_upto_region 7 with (first | ((with_reducible refine gate_dst (N := 18) rfl ?_); (try (refine gate_guard (by rfl) ?_; dsimp only)); refine Kd.R_lit k31 _ 31 ?hg (N := 18) ?hd (xs := ([(⟨a1_0, a1_1, a1_2⟩ : S31)] : List (S31))) (inner := [.int .i64 a1_0, .int .i64 a1_1, .int .i64 a1_2]) (ok := fun _ => True) (okp := fun _ => True) ?hr ?hp (fun _ hk => hk) trivial (Below.refl _ _) (Nat.le_refl _) (by simp) ?_; (case hd => rfl); (case hg => rfl); (case hr => first | (go_simp; done) | (go_simp; rfl)); (case hp => exact (Reps.c3 (show Kd.M k31 _ _ _ (⟨a1_0, a1_1, a1_2⟩ : S31) [.int .i64 a1_0, .int .i64 a1_1, .int .i64 a1_2] from (k31_mkM _ _ _ (⟨a1_0, a1_1, a1_2⟩ : S31) )) (Reps.none _ _))); intro v201 w18 ho19 hb hg_ hnew_; clear hg_ hnew_; (first | rw [← Ny200.out] at ho19 | (simp only [Int.reduceToNat] at ho19; rw [← Ny200.out] at ho19)); have n0_ := Aside0.mk (Kd.R_below (by (with_reducible repeat (first | apply Kd.R_alloc | apply Kd.R_drewN | apply Kd.R_drew)); exact HO_6.out) hb); have n1_ := Aside0.mk (Kd.R_lower (Kd.R_newB ho19 (g := gb192) (o := .cells #[.int .i64 a1_0, .int .i64 a1_1, .int .i64 a1_2] 31 (0, 0)) (by (with_reducible repeat (first | refine blk_drewN ?_ _ | refine blk_drew ?_ | refine blk_alloc ?_ _)); exact BK192.out)) (below_size (by repeat (first | (with_reducible first | exact HB.out | apply below_alloc | apply pw_below_drewN | apply below_drew1 | refine below_set ?_ GE192.out) | exact HB.out)))); have n2_ := Aside0.mk (blk_below (g := gb192) (o := .cells #[.int .i64 a1_0, .int .i64 a1_1, .int .i64 a1_2] 31 (0, 0)) (by (with_reducible repeat (first | refine blk_drewN ?_ _ | refine blk_drew ?_ | refine blk_alloc ?_ _)); exact BK192.out) hb); have n3_ := Aside0.mk (below_step (by repeat (first | (with_reducible first | exact HB.out | apply below_alloc | apply pw_below_drewN | apply below_drew1 | refine below_set ?_ GE192.out) | exact HB.out)) hb); clear HO_6; clear BK192; clear HB; have HO_6 := n0_; have HO202 := n1_; have BK192 := n2_; have HB := n3_; clear n0_ n1_ n2_ n3_; clear hb ho19; obtain ⟨Ao20, co20, eo20⟩ := Kd.R_slice HO202.out; subst eo20) | ((with_reducible refine gate_callee (f := 28) rfl ?_); refine goesL_ (some 19) rfl rfl Try.func28 (by kernel_rfl) rfl #[.slice Ao20 y200.length co20] rfl (by (try simp only [List.map_toArray, List.map_cons, List.map_nil]); first | done | rfl | (simp only [List.length_drop, List.length_take]; rfl)) ?_; (with_reducible refine (horariumlaw12_made.calls kj4 _ _ y200 t203 _ ?side1 ?side2 A13.out).mono ?_); (case side1 => repeat (first | exact (Kd.R_reads' HO202.out).2.2 | (with_reducible refine Kd.C_alloc ?_ _) | (with_reducible refine Kd.C_drewN ?_ _) | (with_reducible refine Kd.C_drew ?_))); (case side2 => exact (Kd.R_reads' HO202.out).2.1); rintro e w21 ⟨v204, rfl, ho0, hb⟩; refine ⟨_, rfl, ?_⟩; have n0_ := Aside0.mk (Kd.R_elder' (by (with_reducible repeat (first | apply Kd.R_alloc | apply Kd.R_drewN | apply Kd.R_drew)); exact HO_6.out) (Kd.R_base ho0) hb); have n1_ := Aside0.mk (Kd.R_below (by (with_reducible repeat (first | apply Kd.R_alloc | apply Kd.R_drewN | apply Kd.R_drew)); exact HO202.out) hb); have n2_ := Aside0.mk (Kd.R_lower (Kd.R_new' ho0 (Kd.R_lt (by (with_reducible repeat (first | apply Kd.R_alloc | apply Kd.R_drewN | apply Kd.R_drew)); exact HO_6.out))) (below_size (by repeat (first | (with_reducible first | exact HB.out | apply below_alloc | apply pw_below_drewN | apply below_drew1 | refine below_set ?_ GE192.out) | exact HB.out)))); have n3_ := Aside0.mk (blk_below (g := gb192) (o := .cells #[.int .i64 a1_0, .int .i64 a1_1, .int .i64 a1_2] 31 (0, 0)) (by (with_reducible repeat (first | refine blk_drewN ?_ _ | refine blk_drew ?_ | refine blk_alloc ?_ _)); exact BK192.out) hb); have n4_ := Aside0.mk (below_step (by repeat (first | (with_reducible first | exact HB.out | apply below_alloc | apply pw_below_drewN | apply below_drew1 | refine below_set ?_ GE192.out) | exact HB.out)) hb); clear HO_6; clear HO202; clear BK192; clear HB; have HO_6 := n0_; have HO202 := n1_; have HO205 := n2_; have BK192 := n3_; have HB := n4_; clear n0_ n1_ n2_ n3_ n4_; (try clear hb); (try clear hb2); (try clear hk); (try clear hi); (try clear ho0); obtain ⟨Ao22, co22, eo22⟩ := Kd.R_slice HO205.out; subst eo22; have p206 : 0 ≤ (0 : Int) := (by omega); have q206 : 0 < (t203.length : Int) := of_decide_eq_true (by first | (with_reducible assumption) | assumption); obtain ⟨ad206, e206, hx206_0, hx206_1, hx206_2, hx206_3, hx206_4⟩ := at_T28 (Kd.R_reads' HO205.out).2.2 0 p206 q206; cases e206; have qi206 : (0 < t203.length) = True := eq_true (by omega); (try rw [show ((0 : Int)).toNat = 0 from rfl] at hx206_0); (try rw [show 0 * 5 = 0 from rfl] at hx206_0); (try rw [Addr.add_zero'] at hx206_0); (try rw [show ((0 : Int)).toNat = 0 from rfl] at hx206_1); (try rw [show 0 * 5 = 0 from rfl] at hx206_1); (try rw [Addr.add_zero'] at hx206_1); (try rw [show ((0 : Int)).toNat = 0 from rfl] at hx206_2); (try rw [show 0 * 5 = 0 from rfl] at hx206_2); (try rw [Addr.add_zero'] at hx206_2); (try rw [show ((0 : Int)).toNat = 0 from rfl] at hx206_3); (try rw [show 0 * 5 = 0 from rfl] at hx206_3); (try rw [Addr.add_zero'] at hx206_3); (try rw [show ((0 : Int)).toNat = 0 from rfl] at hx206_4); (try rw [show 0 * 5 = 0 from rfl] at hx206_4); (try rw [Addr.add_zero'] at hx206_4); replace p206 := eq_true p206; replace q206 := eq_true q206) | ((with_reducible refine gate_dst (N := 7) rfl ?_); (try (refine gate_guard (by rfl) ?_; dsimp only)); refine box_event ?hg (N := 7) ?hd (cs := #[.int .i64 0, .int .i64 0, .int .i64 0, .int .i64 0, .int .i64 0]) (t := 28) ?hr ?_; (case hd => rfl); (case hg => rfl); (case hr => first | (go_simp; done) | (go_simp; rfl)); intro gb207 hg w23 hbox hb; have n0_ := Aside0.mk (Kd.R_below (Kd.R_elderB (by (with_reducible repeat (first | apply Kd.R_alloc | apply Kd.R_drewN | apply Kd.R_drew)); exact HO_6.out) gb207 (Nat.le_of_eq hg.symm)) hb); have n1_ := Aside0.mk (Kd.R_below (by (with_reducible repeat (first | apply Kd.R_alloc | apply Kd.R_drewN | apply Kd.R_drew)); exact HO202.out) hb); have n2_ := Aside0.mk (Kd.R_below (Kd.R_elderB (by (with_reducible repeat (first | apply Kd.R_alloc | apply Kd.R_drewN | apply Kd.R_drew)); exact HO205.out) gb207 (Nat.le_of_eq hg.symm)) hb); have n3_ := Aside0.mk (blk_below (g := gb192) (o := .cells #[.int .i64 a1_0, .int .i64 a1_1, .int .i64 a1_2] 31 (0, 0)) (by (with_reducible repeat (first | refine blk_drewN ?_ _ | refine blk_drew ?_ | refine blk_alloc ?_ _)); exact BK192.out) hb); have n4_ := Aside0.mk (below_step (by repeat (first | (with_reducible first | exact HB.out | apply below_alloc | apply pw_below_drewN | apply below_drew1 | refine below_set ?_ GE192.out) | exact HB.out)) hb); have n5_ := Aside0.mk (hbox); have n6_ := Aside0.mk ((by rw [hg]; exact (below_size (by repeat (first | (with_reducible first | exact HB.out | apply below_alloc | apply pw_below_drewN | apply below_drew1 | refine below_set ?_ GE192.out) | exact HB.out))) : w.heap.size ≤ gb207)); have n7_ := Aside0.mk ((by rw [hg]; exact (below_size (by repeat (first | (with_reducible first | exact HB.out | apply below_alloc | apply pw_below_drewN | apply below_drew1 | refine below_set ?_ GE192.out) | exact HB.out))) : w.heap.size ≤ gb207)); have n8_ := Aside0.mk ((by rw [hg]; exact Nat.ne_of_lt (blk_lt (g := gb192) (o := .cells #[.int .i64 a1_0, .int .i64 a1_1, .int .i64 a1_2] 31 (0, 0)) (by (with_reducible repeat (first | refine blk_drewN ?_ _ | refine blk_drew ?_ | refine blk_alloc ?_ _)); exact BK192.out)) : gb192 ≠ gb207)); have n9_ := Aside0.mk ((by rw [hg]; exact Nat.ne_of_gt (blk_lt (g := gb192) (o := .cells #[.int .i64 a1_0, .int .i64 a1_1, .int .i64 a1_2] 31 (0, 0)) (by (with_reducible repeat (first | refine blk_drewN ?_ _ | refine blk_drew ?_ | refine blk_alloc ?_ _)); exact BK192.out)) : gb207 ≠ gb192)); clear HO_6; clear HO202; clear HO205; clear BK192; clear HB; have HO_6 := n0_; have HO202 := n1_; have HO205 := n2_; have BK192 := n3_; have HB := n4_; have BK207 := n5_; have GW207 := n6_; have GE207 := n7_; have NB192_207 := n8_; have NB207_192 := n9_; clear n0_ n1_ n2_ n3_ n4_ n5_ n6_ n7_ n8_ n9_; clear hb hbox hg; have hnb24 := NB207_192.out; have hnc24 := NB192_207.out; have hcz25_0 : w23.cell? ⟨gb207, 0, none⟩ = some (.int .i64 0) := (blk_cell BK207.out 0).trans rfl; have hcz25_1 : w23.cell? ⟨gb207, 1, none⟩ = some (.int .i64 0) := (blk_cell BK207.out 1).trans rfl; have hcz25_2 : w23.cell? ⟨gb207, 2, none⟩ = some (.int .i64 0) := (blk_cell BK207.out 2).trans rfl; have hcz25_3 : w23.cell? ⟨gb207, 3, none⟩ = some (.int .i64 0) := (blk_cell BK207.out 3).trans rfl; have hcz25_4 : w23.cell? ⟨gb207, 4, none⟩ = some (.int .i64 0) := (blk_cell BK207.out 4).trans rfl; have hfz25_0 := blk_frozen BK207.out 0; have hfz25_1 := blk_frozen BK207.out 1; have hfz25_2 := blk_frozen BK207.out 2; have hfz25_3 := blk_frozen BK207.out 3; have hfz25_4 := blk_frozen BK207.out 4; obtain ⟨Ao26, co26, eo26⟩ := Kd.R_slice HO_6.out; subst eo26) | ((with_reducible refine gate_callee (f := 35) rfl ?_); refine goesL_ (some 24) rfl rfl Try.func35 (by kernel_rfl) rfl #[.slice Ao26 x6_4.length co26, .agg #[.int .i64 ((rd_T28 t203 0).f0), .int .i64 ((rd_T28 t203 0).f1), .int .i64 ((rd_T28 t203 0).f2), .int .i64 ((rd_T28 t203 0).f3), .int .i64 ((rd_T28 t203 0).f4)]] rfl (by (try simp only [List.map_toArray, List.map_cons, List.map_nil]); first | done | rfl | (simp only [List.length_drop, List.length_take]; rfl)) ?_; (with_reducible refine (qpa_Room.calls kj4 _ _ x6_4 ((rd_T28 t203 0).f0) ((rd_T28 t203 0).f1) ((rd_T28 t203 0).f2) ((rd_T28 t203 0).f3) ((rd_T28 t203 0).f4) t208 _ ?side1 ?side2 A15.out).mono ?_); (case side1 => refine (Kd.R_reads' (e := 28) (base := w.heap.size) (ok := fun k_ => ((True ∧ some k_ ≠ (.slice (some ad206) t203.length co22 : Value).ownBlock) ∧ k_ ≠ gb207)) (n := x6_4.length) (c := co26) ?_).2.2; exact (by (with_reducible repeat (first | apply Kd.R_alloc | apply Kd.R_drewN | apply Kd.R_drew)); exact (Kd.R_mono (Kd.R_far (p := ⟨gb207, 4, none⟩) (Kd.R_far (p := ⟨gb207, 3, none⟩) (Kd.R_far (p := ⟨gb207, 2, none⟩) (Kd.R_far (p := ⟨gb207, 1, none⟩) (Kd.R_far (p := ⟨gb207, 0, none⟩) (Kd.R_mono HO_6.out (fun k_ hk => (⟨hk, hk.2⟩ : _ ∧ k_ ≠ gb207))) (fun _ hk => hk.2) (.int .i64 ((rd_T28 t203 0).f0))) (fun _ hk => hk.2) (.int .i64 ((rd_T28 t203 0).f1))) (fun _ hk => hk.2) (.int .i64 ((rd_T28 t203 0).f2))) (fun _ hk => hk.2) (.int .i64 ((rd_T28 t203 0).f3))) (fun _ hk => hk.2) (.int .i64 ((rd_T28 t203 0).f4))) (fun _ h_ => h_.1)))); (case side2 => exact (Kd.R_reads' HO_6.out).2.1); rintro e w27 ⟨rfl, hb⟩; refine ⟨_, rfl, ?_⟩; have n0_ := Aside0.mk (Kd.R_below (by (with_reducible repeat (first | apply Kd.R_alloc | apply Kd.R_drewN | apply Kd.R_drew)); exact (Kd.R_mono (Kd.R_far (p := ⟨gb207, 4, none⟩) (Kd.R_far (p := ⟨gb207, 3, none⟩) (Kd.R_far (p := ⟨gb207, 2, none⟩) (Kd.R_far (p := ⟨gb207, 1, none⟩) (Kd.R_far (p := ⟨gb207, 0, none⟩) (Kd.R_mono HO_6.out (fun k_ hk => (⟨hk, hk.2⟩ : _ ∧ k_ ≠ gb207))) (fun _ hk => hk.2) (.int .i64 ((rd_T28 t203 0).f0))) (fun _ hk => hk.2) (.int .i64 ((rd_T28 t203 0).f1))) (fun _ hk => hk.2) (.int .i64 ((rd_T28 t203 0).f2))) (fun _ hk => hk.2) (.int .i64 ((rd_T28 t203 0).f3))) (fun _ hk => hk.2) (.int .i64 ((rd_T28 t203 0).f4))) (fun _ h_ => h_.1))) hb); have n1_ := Aside0.mk (Kd.R_below (by (with_reducible repeat (first | apply Kd.R_alloc | apply Kd.R_drewN | apply Kd.R_drew)); exact (Kd.R_mono (Kd.R_far (p := ⟨gb207, 4, none⟩) (Kd.R_far (p := ⟨gb207, 3, none⟩) (Kd.R_far (p := ⟨gb207, 2, none⟩) (Kd.R_far (p := ⟨gb207, 1, none⟩) (Kd.R_far (p := ⟨gb207, 0, none⟩) (Kd.R_types HO202.out BK207.out (by decide)) (fun _ hk => hk.2) (.int .i64 ((rd_T28 t203 0).f0))) (fun _ hk => hk.2) (.int .i64 ((rd_T28 t203 0).f1))) (fun _ hk => hk.2) (.int .i64 ((rd_T28 t203 0).f2))) (fun _ hk => hk.2) (.int .i64 ((rd_T28 t203 0).f3))) (fun _ hk => hk.2) (.int .i64 ((rd_T28 t203 0).f4))) (fun _ h_ => h_.1))) hb); have n2_ := Aside0.mk (Kd.R_below (by (with_reducible repeat (first | apply Kd.R_alloc | apply Kd.R_drewN | apply Kd.R_drew)); exact (Kd.R_mono (Kd.R_far (p := ⟨gb207, 4, none⟩) (Kd.R_far (p := ⟨gb207, 3, none⟩) (Kd.R_far (p := ⟨gb207, 2, none⟩) (Kd.R_far (p := ⟨gb207, 1, none⟩) (Kd.R_far (p := ⟨gb207, 0, none⟩) (Kd.R_mono HO205.out (fun k_ hk => (⟨hk, hk.2⟩ : _ ∧ k_ ≠ gb207))) (fun _ hk => hk.2) (.int .i64 ((rd_T28 t203 0).f0))) (fun _ hk => hk.2) (.int .i64 ((rd_T28 t203 0).f1))) (fun _ hk => hk.2) (.int .i64 ((rd_T28 t203 0).f2))) (fun _ hk => hk.2) (.int .i64 ((rd_T28 t203 0).f3))) (fun _ hk => hk.2) (.int .i64 ((rd_T28 t203 0).f4))) (fun _ h_ => h_.1))) hb); have n3_ := Aside0.mk (blk_below (g := gb192) (o := .cells #[.int .i64 a1_0, .int .i64 a1_1, .int .i64 a1_2] 31 (0, 0)) (by (with_reducible repeat (first | refine blk_drewN ?_ _ | refine blk_drew ?_ | refine blk_alloc ?_ _)); refine blk_far ?_ NB192_207.out _; (with_reducible repeat (first | refine blk_drewN ?_ _ | refine blk_drew ?_ | refine blk_alloc ?_ _)); refine blk_far ?_ NB192_207.out _; (with_reducible repeat (first | refine blk_drewN ?_ _ | refine blk_drew ?_ | refine blk_alloc ?_ _)); refine blk_far ?_ NB192_207.out _; (with_reducible repeat (first | refine blk_drewN ?_ _ | refine blk_drew ?_ | refine blk_alloc ?_ _)); refine blk_far ?_ NB192_207.out _; (with_reducible repeat (first | refine blk_drewN ?_ _ | refine blk_drew ?_ | refine blk_alloc ?_ _)); refine blk_far ?_ NB192_207.out _; (with_reducible repeat (first | refine blk_drewN ?_ _ | refine blk_drew ?_ | refine blk_alloc ?_ _)); exact BK192.out) hb); have n4_ := Aside0.mk (blk_below (g := gb207) (o := .cells #[.int .i64 ((rd_T28 t203 0).f0), .int .i64 ((rd_T28 t203 0).f1), .int .i64 ((rd_T28 t203 0).f2), .int .i64 ((rd_T28 t203 0).f3), .int .i64 ((rd_T28 t203 0).f4)] 28 (0, 0)) (by (with_reducible repeat (first | refine blk_drewN ?_ _ | refine blk_drew ?_ | refine blk_alloc ?_ _)); refine blk_put (cs := #[.int .i64 ((rd_T28 t203 0).f0), .int .i64 ((rd_T28 t203 0).f1), .int .i64 ((rd_T28 t203 0).f2), .int .i64 ((rd_T28 t203 0).f3), .int .i64 0]) ?_ 4 _ rfl; (with_reducible repeat (first | refine blk_drewN ?_ _ | refine blk_drew ?_ | refine blk_alloc ?_ _)); refine blk_put (cs := #[.int .i64 ((rd_T28 t203 0).f0), .int .i64 ((rd_T28 t203 0).f1), .int .i64 ((rd_T28 t203 0).f2), .int .i64 0, .int .i64 0]) ?_ 3 _ rfl; (with_reducible repeat (first | refine blk_drewN ?_ _ | refine blk_drew ?_ | refine blk_alloc ?_ _)); refine blk_put (cs := #[.int .i64 ((rd_T28 t203 0).f0), .int .i64 ((rd_T28 t203 0).f1), .int .i64 0, .int .i64 0, .int .i64 0]) ?_ 2 _ rfl; (with_reducible repeat (first | refine blk_drewN ?_ _ | refine blk_drew ?_ | refine blk_alloc ?_ _)); refine blk_put (cs := #[.int .i64 ((rd_T28 t203 0).f0), .int .i64 0, .int .i64 0, .int .i64 0, .int .i64 0]) ?_ 1 _ rfl; (with_reducible repeat (first | refine blk_drewN ?_ _ | refine blk_drew ?_ | refine blk_alloc ?_ _)); refine blk_put (cs := #[.int .i64 0, .int .i64 0, .int .i64 0, .int .i64 0, .int .i64 0]) ?_ 0 _ rfl; (with_reducible repeat (first | refine blk_drewN ?_ _ | refine blk_drew ?_ | refine blk_alloc ?_ _)); exact BK207.out) hb); have n5_ := Aside0.mk (below_step (by repeat (first | (with_reducible first | exact HB.out | apply below_alloc | apply pw_below_drewN | apply below_drew1 | refine below_set ?_ GE192.out | refine below_set ?_ GE207.out) | exact HB.out)) hb); clear HO_6; clear HO202; clear HO205; clear BK192; clear BK207; clear HB; have HO_6 := n0_; have HO202 := n1_; have HO205 := n2_; have BK192 := n3_; have BK207 := n4_; have HB := n5_; clear n0_ n1_ n2_ n3_ n4_ n5_; (try clear hb); (try clear hb2); (try clear hk); (try clear hi)))
        (try simp only [Act.put, List.setIfInBounds_toArray, List.set_cons_zero, List.set_cons_succ])
        go_cut [39] (fun v39 wc => ∃ (kq : Nat) (x39_15 : Bool), v39 = .bool x39_15 ∧ Aside0 (horariumlaw12_QpaRoom.j1 kq t193 x6_4 t208 x39_15 ((rd_T28 t203 0).f0) ((rd_T28 t203 0).f1) ((rd_T28 t203 0).f2) ((rd_T28 t203 0).f3) ((rd_T28 t203 0).f4) = some r) ∧ Aside0 (kq ≤ kj4) ∧ Aside0 (Kd.R k28 28 wc w.heap.size (fun k_ => k_ ≠ gb207) (.slice Ao26 x6_4.length co26) x6_4) ∧ Aside0 (wc.heap[gb192]? = some (.cells #[.int .i64 a1_0, .int .i64 a1_1, .int .i64 a1_2] 31 (0, 0))) ∧ Aside0 (wc.heap[gb207]? = some (.cells #[.int .i64 ((rd_T28 t203 0).f0), .int .i64 ((rd_T28 t203 0).f1), .int .i64 ((rd_T28 t203 0).f2), .int .i64 ((rd_T28 t203 0).f3), .int .i64 ((rd_T28 t203 0).f4)] 28 (0, 0))) ∧ Aside0 (Below w.heap.size w wc))
        case first =>
          have H := HC16.out
          clear HC16
          replace H := Option.bind_eq_some_iff.mp H
          obtain ⟨t209, A280, H⟩ := H
          replace H : (if t208 = t209 then (if t208 < 0 then (horariumlaw12_QpaRoom.j1 kj4 t193 x6_4 t208 true ((rd_T28 t203 0).f0) ((rd_T28 t203 0).f1) ((rd_T28 t203 0).f2) ((rd_T28 t203 0).f3) ((rd_T28 t203 0).f4)) else (horariumlaw12_QpaRoom.j1 kj4 t193 x6_4 t208 (decide (t208 > ((rd_T28 t203 0).f2))) ((rd_T28 t203 0).f0) ((rd_T28 t203 0).f1) ((rd_T28 t203 0).f2) ((rd_T28 t203 0).f3) ((rd_T28 t203 0).f4))) else (horariumlaw12_QpaRoom.j1 kj4 t193 x6_4 t208 true ((rd_T28 t203 0).f0) ((rd_T28 t203 0).f1) ((rd_T28 t203 0).f2) ((rd_T28 t203 0).f3) ((rd_T28 t203 0).f4))) = some r := H
          have A28 := Aside0.mk A280
          clear A280
          by_cases c29 : t208 = t209
          · rw [if_pos c29] at H
            have c29b0 : (t208 == t209) = true := beq_iff_eq.mpr c29
            have c29b1 : (t208 != t209) = false := bne_eq_false_iff_eq.mpr c29
            clear c29
            (first | rw [c29b0] | (simp only [i64_w, i32_w]; rw [c29b0]) | skip)
            by_cases c30 : t208 < 0
            · rw [if_pos c30] at H
              have c30b0 : decide (t208 < 0) = true := decide_eq_true c30
              clear c30
              have H' := Aside0.mk H
              clear H
              have hnb31 := NB207_192.out
              have hnc31 := NB192_207.out
              have hcz32_0 : w27.cell? ⟨gb207, 0, none⟩ = some (.int .i64 ((rd_T28 t203 0).f0)) := (blk_cell BK207.out 0).trans rfl
              have hcz32_1 : w27.cell? ⟨gb207, 1, none⟩ = some (.int .i64 ((rd_T28 t203 0).f1)) := (blk_cell BK207.out 1).trans rfl
              have hcz32_2 : w27.cell? ⟨gb207, 2, none⟩ = some (.int .i64 ((rd_T28 t203 0).f2)) := (blk_cell BK207.out 2).trans rfl
              have hcz32_3 : w27.cell? ⟨gb207, 3, none⟩ = some (.int .i64 ((rd_T28 t203 0).f3)) := (blk_cell BK207.out 3).trans rfl
              have hcz32_4 : w27.cell? ⟨gb207, 4, none⟩ = some (.int .i64 ((rd_T28 t203 0).f4)) := (blk_cell BK207.out 4).trans rfl
              have hfz32_0 := blk_frozen BK207.out 0
              have hfz32_1 := blk_frozen BK207.out 1
              have hfz32_2 := blk_frozen BK207.out 2
              have hfz32_3 := blk_frozen BK207.out 3
              have hfz32_4 := blk_frozen BK207.out 4
              go_wp2_with (first | ((with_reducible refine gate_callee (f := 36) rfl ?_); refine goesL_ (some 28) rfl rfl Try.func36 (by kernel_rfl) rfl #[.slice Ao26 x6_4.length co26, .agg #[.int .i64 ((rd_T28 t203 0).f0), .int .i64 ((rd_T28 t203 0).f1), .int .i64 ((rd_T28 t203 0).f2), .int .i64 ((rd_T28 t203 0).f3), .int .i64 ((rd_T28 t203 0).f4)]] rfl (by (try simp only [List.map_toArray, List.map_cons, List.map_nil]); first | done | rfl | (simp only [List.length_drop, List.length_take]; rfl)) ?_; (with_reducible refine (horariumref12_Room.calls kj4 _ _ x6_4 ((rd_T28 t203 0).f0) ((rd_T28 t203 0).f1) ((rd_T28 t203 0).f2) ((rd_T28 t203 0).f3) ((rd_T28 t203 0).f4) t209 _ ?side1 ?side2 A28.out).mono ?_); (case side1 => repeat (first | exact (Kd.R_reads' HO_6.out).2.2 | (with_reducible refine Kd.C_alloc ?_ _) | (with_reducible refine Kd.C_drewN ?_ _) | (with_reducible refine Kd.C_drew ?_))); (case side2 => exact (Kd.R_reads' HO_6.out).2.1); rintro e w33 ⟨rfl, hb⟩; refine ⟨_, rfl, ?_⟩; have n0_ := Aside0.mk (Kd.R_below (by (with_reducible repeat (first | apply Kd.R_alloc | apply Kd.R_drewN | apply Kd.R_drew)); exact HO_6.out) hb); have n1_ := Aside0.mk (Kd.R_below (by (with_reducible repeat (first | apply Kd.R_alloc | apply Kd.R_drewN | apply Kd.R_drew)); exact HO202.out) hb); have n2_ := Aside0.mk (Kd.R_below (by (with_reducible repeat (first | apply Kd.R_alloc | apply Kd.R_drewN | apply Kd.R_drew)); exact HO205.out) hb); have n3_ := Aside0.mk (blk_below (g := gb192) (o := .cells #[.int .i64 a1_0, .int .i64 a1_1, .int .i64 a1_2] 31 (0, 0)) (by (with_reducible repeat (first | refine blk_drewN ?_ _ | refine blk_drew ?_ | refine blk_alloc ?_ _)); exact BK192.out) hb); have n4_ := Aside0.mk (blk_below (g := gb207) (o := .cells #[.int .i64 ((rd_T28 t203 0).f0), .int .i64 ((rd_T28 t203 0).f1), .int .i64 ((rd_T28 t203 0).f2), .int .i64 ((rd_T28 t203 0).f3), .int .i64 ((rd_T28 t203 0).f4)] 28 (0, 0)) (by (with_reducible repeat (first | refine blk_drewN ?_ _ | refine blk_drew ?_ | refine blk_alloc ?_ _)); exact BK207.out) hb); have n5_ := Aside0.mk (below_step (by repeat (first | (with_reducible first | exact HB.out | apply below_alloc | apply pw_below_drewN | apply below_drew1 | refine below_set ?_ GE192.out | refine below_set ?_ GE207.out) | exact HB.out)) hb); clear HO_6; clear HO202; clear HO205; clear BK192; clear BK207; clear HB; have HO_6 := n0_; have HO202 := n1_; have HO205 := n2_; have BK192 := n3_; have BK207 := n4_; have HB := n5_; clear n0_ n1_ n2_ n3_ n4_ n5_; (try clear hb); (try clear hb2); (try clear hk); (try clear hi)))
              go_meet
              case rel => exact ⟨_, (true), (by first | rfl | (simp; done) | (simp [*]; done)), H', ⟨by have := HJ4.out; first | omega | exact Nat.le_refl _⟩, ⟨by (with_reducible repeat (first | apply Kd.R_alloc | apply Kd.R_drewN | apply Kd.R_drew)); exact Kd.R_mono HO_6.out (fun _ hk => hk.2)⟩, ⟨by (with_reducible repeat (first | refine blk_drewN ?_ _ | refine blk_drew ?_ | refine blk_alloc ?_ _)); exact BK192.out⟩, ⟨by (with_reducible repeat (first | refine blk_drewN ?_ _ | refine blk_drew ?_ | refine blk_alloc ?_ _)); exact BK207.out⟩, ⟨by repeat (first | (with_reducible first | exact HB.out | apply below_alloc | apply pw_below_drewN | apply below_drew1 | refine below_set ?_ GE192.out | refine below_set ?_ GE207.out) | exact HB.out)⟩⟩
            · rw [if_neg c30] at H
              have c30b0 : decide (t208 < 0) = false := decide_eq_false c30
              clear c30
              have H' := Aside0.mk H
              clear H
              have hnb34 := NB207_192.out
              have hnc34 := NB192_207.out
              have hcz35_0 : w27.cell? ⟨gb207, 0, none⟩ = some (.int .i64 ((rd_T28 t203 0).f0)) := (blk_cell BK207.out 0).trans rfl
              have hcz35_1 : w27.cell? ⟨gb207, 1, none⟩ = some (.int .i64 ((rd_T28 t203 0).f1)) := (blk_cell BK207.out 1).trans rfl
              have hcz35_2 : w27.cell? ⟨gb207, 2, none⟩ = some (.int .i64 ((rd_T28 t203 0).f2)) := (blk_cell BK207.out 2).trans rfl
              have hcz35_3 : w27.cell? ⟨gb207, 3, none⟩ = some (.int .i64 ((rd_T28 t203 0).f3)) := (blk_cell BK207.out 3).trans rfl
              have hcz35_4 : w27.cell? ⟨gb207, 4, none⟩ = some (.int .i64 ((rd_T28 t203 0).f4)) := (blk_cell BK207.out 4).trans rfl
              have hfz35_0 := blk_frozen BK207.out 0
              have hfz35_1 := blk_frozen BK207.out 1
              have hfz35_2 := blk_frozen BK207.out 2
              have hfz35_3 := blk_frozen BK207.out 3
              have hfz35_4 := blk_frozen BK207.out 4
              go_wp2_with (first | ((with_reducible refine gate_callee (f := 36) rfl ?_); refine goesL_ (some 28) rfl rfl Try.func36 (by kernel_rfl) rfl #[.slice Ao26 x6_4.length co26, .agg #[.int .i64 ((rd_T28 t203 0).f0), .int .i64 ((rd_T28 t203 0).f1), .int .i64 ((rd_T28 t203 0).f2), .int .i64 ((rd_T28 t203 0).f3), .int .i64 ((rd_T28 t203 0).f4)]] rfl (by (try simp only [List.map_toArray, List.map_cons, List.map_nil]); first | done | rfl | (simp only [List.length_drop, List.length_take]; rfl)) ?_; (with_reducible refine (horariumref12_Room.calls kj4 _ _ x6_4 ((rd_T28 t203 0).f0) ((rd_T28 t203 0).f1) ((rd_T28 t203 0).f2) ((rd_T28 t203 0).f3) ((rd_T28 t203 0).f4) t209 _ ?side1 ?side2 A28.out).mono ?_); (case side1 => repeat (first | exact (Kd.R_reads' HO_6.out).2.2 | (with_reducible refine Kd.C_alloc ?_ _) | (with_reducible refine Kd.C_drewN ?_ _) | (with_reducible refine Kd.C_drew ?_))); (case side2 => exact (Kd.R_reads' HO_6.out).2.1); rintro e w36 ⟨rfl, hb⟩; refine ⟨_, rfl, ?_⟩; have n0_ := Aside0.mk (Kd.R_below (by (with_reducible repeat (first | apply Kd.R_alloc | apply Kd.R_drewN | apply Kd.R_drew)); exact HO_6.out) hb); have n1_ := Aside0.mk (Kd.R_below (by (with_reducible repeat (first | apply Kd.R_alloc | apply Kd.R_drewN | apply Kd.R_drew)); exact HO202.out) hb); have n2_ := Aside0.mk (Kd.R_below (by (with_reducible repeat (first | apply Kd.R_alloc | apply Kd.R_drewN | apply Kd.R_drew)); exact HO205.out) hb); have n3_ := Aside0.mk (blk_below (g := gb192) (o := .cells #[.int .i64 a1_0, .int .i64 a1_1, .int .i64 a1_2] 31 (0, 0)) (by (with_reducible repeat (first | refine blk_drewN ?_ _ | refine blk_drew ?_ | refine blk_alloc ?_ _)); exact BK192.out) hb); have n4_ := Aside0.mk (blk_below (g := gb207) (o := .cells #[.int .i64 ((rd_T28 t203 0).f0), .int .i64 ((rd_T28 t203 0).f1), .int .i64 ((rd_T28 t203 0).f2), .int .i64 ((rd_T28 t203 0).f3), .int .i64 ((rd_T28 t203 0).f4)] 28 (0, 0)) (by (with_reducible repeat (first | refine blk_drewN ?_ _ | refine blk_drew ?_ | refine blk_alloc ?_ _)); exact BK207.out) hb); have n5_ := Aside0.mk (below_step (by repeat (first | (with_reducible first | exact HB.out | apply below_alloc | apply pw_below_drewN | apply below_drew1 | refine below_set ?_ GE192.out | refine below_set ?_ GE207.out) | exact HB.out)) hb); clear HO_6; clear HO202; clear HO205; clear BK192; clear BK207; clear HB; have HO_6 := n0_; have HO202 := n1_; have HO205 := n2_; have BK192 := n3_; have BK207 := n4_; have HB := n5_; clear n0_ n1_ n2_ n3_ n4_ n5_; (try clear hb); (try clear hb2); (try clear hk); (try clear hi); have hcz37_0 : w36.cell? ⟨gb207, 0, none⟩ = some (.int .i64 ((rd_T28 t203 0).f0)) := (blk_cell BK207.out 0).trans rfl; have hcz37_1 : w36.cell? ⟨gb207, 1, none⟩ = some (.int .i64 ((rd_T28 t203 0).f1)) := (blk_cell BK207.out 1).trans rfl; have hcz37_2 : w36.cell? ⟨gb207, 2, none⟩ = some (.int .i64 ((rd_T28 t203 0).f2)) := (blk_cell BK207.out 2).trans rfl; have hcz37_3 : w36.cell? ⟨gb207, 3, none⟩ = some (.int .i64 ((rd_T28 t203 0).f3)) := (blk_cell BK207.out 3).trans rfl; have hcz37_4 : w36.cell? ⟨gb207, 4, none⟩ = some (.int .i64 ((rd_T28 t203 0).f4)) := (blk_cell BK207.out 4).trans rfl; have hfz37_0 := blk_frozen BK207.out 0; have hfz37_1 := blk_frozen BK207.out 1; have hfz37_2 := blk_frozen BK207.out 2; have hfz37_3 := blk_frozen BK207.out 3; have hfz37_4 := blk_frozen BK207.out 4))
              go_meet
              case rel => exact ⟨_, (decide (t208 > ((rd_T28 t203 0).f2))), (by first | rfl | (simp; done) | (simp [*]; done)), H', ⟨by have := HJ4.out; first | omega | exact Nat.le_refl _⟩, ⟨by (with_reducible repeat (first | apply Kd.R_alloc | apply Kd.R_drewN | apply Kd.R_drew)); exact Kd.R_mono HO_6.out (fun _ hk => hk.2)⟩, ⟨by (with_reducible repeat (first | refine blk_drewN ?_ _ | refine blk_drew ?_ | refine blk_alloc ?_ _)); exact BK192.out⟩, ⟨by (with_reducible repeat (first | refine blk_drewN ?_ _ | refine blk_drew ?_ | refine blk_alloc ?_ _)); exact BK207.out⟩, ⟨by repeat (first | (with_reducible first | exact HB.out | apply below_alloc | apply pw_below_drewN | apply below_drew1 | refine below_set ?_ GE192.out | refine below_set ?_ GE207.out) | exact HB.out)⟩⟩
          · rw [if_neg c29] at H
            have c29b0 : (t208 == t209) = false := beq_eq_false_iff_ne.mpr c29
            have c29b1 : (t208 != t209) = true := bne_iff_ne.mpr c29
            (first | rw [c29b0] | (simp only [i64_w, i32_w]; rw [c29b0]) | skip)
            have H' := Aside0.mk H
            clear H
            have hnb38 := NB207_192.out
            have hnc38 := NB192_207.out
            have hcz39_0 : w27.cell? ⟨gb207, 0, none⟩ = some (.int .i64 ((rd_T28 t203 0).f0)) := (blk_cell BK207.out 0).trans rfl
            have hcz39_1 : w27.cell? ⟨gb207, 1, none⟩ = some (.int .i64 ((rd_T28 t203 0).f1)) := (blk_cell BK207.out 1).trans rfl
            have hcz39_2 : w27.cell? ⟨gb207, 2, none⟩ = some (.int .i64 ((rd_T28 t203 0).f2)) := (blk_cell BK207.out 2).trans rfl
            have hcz39_3 : w27.cell? ⟨gb207, 3, none⟩ = some (.int .i64 ((rd_T28 t203 0).f3)) := (blk_cell BK207.out 3).trans rfl
            have hcz39_4 : w27.cell? ⟨gb207, 4, none⟩ = some (.int .i64 ((rd_T28 t203 0).f4)) := (blk_cell BK207.out 4).trans rfl
            have hfz39_0 := blk_frozen BK207.out 0
            have hfz39_1 := blk_frozen BK207.out 1
            have hfz39_2 := blk_frozen BK207.out 2
            have hfz39_3 := blk_frozen BK207.out 3
            have hfz39_4 := blk_frozen BK207.out 4
            go_wp2_with (first | ((with_reducible refine gate_callee (f := 36) rfl ?_); refine goesL_ (some 28) rfl rfl Try.func36 (by kernel_rfl) rfl #[.slice Ao26 x6_4.length co26, .agg #[.int .i64 ((rd_T28 t203 0).f0), .int .i64 ((rd_T28 t203 0).f1), .int .i64 ((rd_T28 t203 0).f2), .int .i64 ((rd_T28 t203 0).f3), .int .i64 ((rd_T28 t203 0).f4)]] rfl (by (try simp only [List.map_toArray, List.map_cons, List.map_nil]); first | done | rfl | (simp only [List.length_drop, List.length_take]; rfl)) ?_; (with_reducible refine (horariumref12_Room.calls kj4 _ _ x6_4 ((rd_T28 t203 0).f0) ((rd_T28 t203 0).f1) ((rd_T28 t203 0).f2) ((rd_T28 t203 0).f3) ((rd_T28 t203 0).f4) t209 _ ?side1 ?side2 A28.out).mono ?_); (case side1 => repeat (first | exact (Kd.R_reads' HO_6.out).2.2 | (with_reducible refine Kd.C_alloc ?_ _) | (with_reducible refine Kd.C_drewN ?_ _) | (with_reducible refine Kd.C_drew ?_))); (case side2 => exact (Kd.R_reads' HO_6.out).2.1); rintro e w40 ⟨rfl, hb⟩; refine ⟨_, rfl, ?_⟩; have n0_ := Aside0.mk (Kd.R_below (by (with_reducible repeat (first | apply Kd.R_alloc | apply Kd.R_drewN | apply Kd.R_drew)); exact HO_6.out) hb); have n1_ := Aside0.mk (Kd.R_below (by (with_reducible repeat (first | apply Kd.R_alloc | apply Kd.R_drewN | apply Kd.R_drew)); exact HO202.out) hb); have n2_ := Aside0.mk (Kd.R_below (by (with_reducible repeat (first | apply Kd.R_alloc | apply Kd.R_drewN | apply Kd.R_drew)); exact HO205.out) hb); have n3_ := Aside0.mk (blk_below (g := gb192) (o := .cells #[.int .i64 a1_0, .int .i64 a1_1, .int .i64 a1_2] 31 (0, 0)) (by (with_reducible repeat (first | refine blk_drewN ?_ _ | refine blk_drew ?_ | refine blk_alloc ?_ _)); exact BK192.out) hb); have n4_ := Aside0.mk (blk_below (g := gb207) (o := .cells #[.int .i64 ((rd_T28 t203 0).f0), .int .i64 ((rd_T28 t203 0).f1), .int .i64 ((rd_T28 t203 0).f2), .int .i64 ((rd_T28 t203 0).f3), .int .i64 ((rd_T28 t203 0).f4)] 28 (0, 0)) (by (with_reducible repeat (first | refine blk_drewN ?_ _ | refine blk_drew ?_ | refine blk_alloc ?_ _)); exact BK207.out) hb); have n5_ := Aside0.mk (below_step (by repeat (first | (with_reducible first | exact HB.out | apply below_alloc | apply pw_below_drewN | apply below_drew1 | refine below_set ?_ GE192.out | refine below_set ?_ GE207.out) | exact HB.out)) hb); clear HO_6; clear HO202; clear HO205; clear BK192; clear BK207; clear HB; have HO_6 := n0_; have HO202 := n1_; have HO205 := n2_; have BK192 := n3_; have BK207 := n4_; have HB := n5_; clear n0_ n1_ n2_ n3_ n4_ n5_; (try clear hb); (try clear hb2); (try clear hk); (try clear hi)))
            go_meet
            case rel => exact ⟨_, (true), (by first | rfl | (simp; done) | (simp [*]; done)), H', ⟨by have := HJ4.out; first | omega | exact Nat.le_refl _⟩, ⟨by (with_reducible repeat (first | apply Kd.R_alloc | apply Kd.R_drewN | apply Kd.R_drew)); exact Kd.R_mono HO_6.out (fun _ hk => hk.2)⟩, ⟨by (with_reducible repeat (first | refine blk_drewN ?_ _ | refine blk_drew ?_ | refine blk_alloc ?_ _)); exact BK192.out⟩, ⟨by (with_reducible repeat (first | refine blk_drewN ?_ _ | refine blk_drew ?_ | refine blk_alloc ?_ _)); exact BK207.out⟩, ⟨by repeat (first | (with_reducible first | exact HB.out | apply below_alloc | apply pw_below_drewN | apply below_drew1 | refine below_set ?_ GE192.out | refine below_set ?_ GE207.out) | exact HB.out)⟩⟩
        case rest =>
          clear HC16
          try clear c1
          try clear q1
          try clear c2
          try clear p2
          try clear q2
          try clear hx2
          try clear qi2
          try clear c3
          try clear c10
          try clear c10b0
          try clear c10b1
          try clear c11
          try clear c11b0
          try clear c11b1
          try clear c12
          try clear q12
          try clear c14
          try clear c14b0
          try clear c14b1
          try clear p20
          try clear q20
          try clear hx20
          try clear qi20
          try clear c24
          try clear c27
          try clear c28
          try clear c29
          try clear c29b0
          try clear c29b1
          try clear c30
          try clear c30b0
          try clear c31
          try clear c34
          try clear c35
          try clear c36
          try clear c38
          try clear hcz17_0
          try clear hcz17_1
          try clear hcz17_2
          try clear hcz25_0
          try clear hcz25_1
          try clear hcz25_2
          try clear hcz25_3
          try clear hcz25_4
          try clear hcz32_0
          try clear hcz32_1
          try clear hcz32_2
          try clear hcz32_3
          try clear hcz32_4
          try clear hcz35_0
          try clear hcz35_1
          try clear hcz35_2
          try clear hcz35_3
          try clear hcz35_4
          try clear hcz37_0
          try clear hcz37_1
          try clear hcz37_2
          try clear hcz37_3
          try clear hcz37_4
          try clear hcz39_0
          try clear hcz39_1
          try clear hcz39_2
          try clear hcz39_3
          try clear hcz39_4
          try clear hfz17_0
          try clear hfz17_1
          try clear hfz17_2
          try clear hfz25_0
          try clear hfz25_1
          try clear hfz25_2
          try clear hfz25_3
          try clear hfz25_4
          try clear hfz32_0
          try clear hfz32_1
          try clear hfz32_2
          try clear hfz32_3
          try clear hfz32_4
          try clear hfz35_0
          try clear hfz35_1
          try clear hfz35_2
          try clear hfz35_3
          try clear hfz35_4
          try clear hfz37_0
          try clear hfz37_1
          try clear hfz37_2
          try clear hfz37_3
          try clear hfz37_4
          try clear hfz39_0
          try clear hfz39_1
          try clear hfz39_2
          try clear hfz39_3
          try clear hfz39_4
          try clear hx206_0
          try clear hx206_1
          try clear hx206_2
          try clear hx206_3
          try clear hx206_4
          try clear p2
          try clear p206
          try clear q1
          try clear q12
          try clear q206
          obtain ⟨kq, x39_15, rfl, HA, HJ15, HO_6, BK192, BK207, HB⟩ := hcut
          cases kq with
          | zero => exact absurd HA.out (by simp [horariumlaw12_QpaRoom.j1])
          | succ kj15 =>
            have H := HA.out
            clear HA
            simp only [horariumlaw12_QpaRoom.j1] at H
            by_cases c41 : x39_15 = true
            · subst c41
              have H1 : (some false) = some r := by rw [if_pos rfl] at H; exact H
              clear H
              have H := H1
              clear H1
              exact absurd ((Option.some.inj H).trans HRT.out) (by decide)
            · replace c41 := Bool.eq_false_iff.mpr c41
              subst c41
              have H1 : ((horariumref12_Test.f kj15 x6_4).bind fun t210 => (if t210 = 0 then (if t208 = ((rd_T28 t203 0).f2) then (some t193) else (if t193 = true then ((some (([] : List (S28)) : List (S28))).bind fun y211 => (if y211.length + x6_4.length < 3518437208883 then ((some (y211 ++ x6_4 : List (S28))).bind fun y214 => ((some (([(⟨((rd_T28 t203 0).f0), wrap64 (t208 + 1), ((rd_T28 t203 0).f2), ((rd_T28 t203 0).f3), ((rd_T28 t203 0).f4)⟩ : S28)] : List (S28)) : List (S28))).bind fun y217 => (if y214.length + y217.length < 3518437208883 then ((horariumref12_Test.f kj15 (y214 ++ y217)).bind fun t223 => (some (t223 == 17))) else (none)))) else (none))) else (some false))) else (if t193 = true then (some (t208 == 0)) else (some false)))) = some r := by rw [if_neg (show ¬ (false = true) by decide)] at H; exact H
              clear H
              have H := H1
              clear H1
              replace H := Option.bind_eq_some_iff.mp H
              obtain ⟨t210, A420, H⟩ := H
              replace H : (if t210 = 0 then (if t208 = ((rd_T28 t203 0).f2) then (some t193) else (if t193 = true then ((some (([] : List (S28)) : List (S28))).bind fun y211 => (if y211.length + x6_4.length < 3518437208883 then ((some (y211 ++ x6_4 : List (S28))).bind fun y214 => ((some (([(⟨((rd_T28 t203 0).f0), wrap64 (t208 + 1), ((rd_T28 t203 0).f2), ((rd_T28 t203 0).f3), ((rd_T28 t203 0).f4)⟩ : S28)] : List (S28)) : List (S28))).bind fun y217 => (if y214.length + y217.length < 3518437208883 then ((horariumref12_Test.f kj15 (y214 ++ y217)).bind fun t223 => (some (t223 == 17))) else (none)))) else (none))) else (some false))) else (if t193 = true then (some (t208 == 0)) else (some false))) = some r := H
              have A42 := Aside0.mk A420
              clear A420
              by_cases c43 : t210 = 0
              · rw [if_pos c43] at H
                have c43b0 : (t210 == 0) = true := beq_iff_eq.mpr c43
                have c43b1 : (t210 != 0) = false := bne_eq_false_iff_eq.mpr c43
                clear c43
                by_cases c44 : t208 = ((rd_T28 t203 0).f2)
                · rw [if_pos c44] at H
                  have c44b0 : (t208 == ((rd_T28 t203 0).f2)) = true := beq_iff_eq.mpr c44
                  have c44b1 : (t208 != ((rd_T28 t203 0).f2)) = false := bne_eq_false_iff_eq.mpr c44
                  clear c44
                  obtain rfl := Option.some.inj H
                  go_wp2_with (first | ((with_reducible refine gate_callee (f := 37) rfl ?_); refine goesL_ (some 41) rfl rfl Try.func37 (by kernel_rfl) rfl #[.slice Ao26 x6_4.length co26] rfl (by (try simp only [List.map_toArray, List.map_cons, List.map_nil]); first | done | rfl | (simp only [List.length_drop, List.length_take]; rfl)) ?_; (with_reducible refine (horariumref12_Test.calls kj15 _ _ x6_4 t210 _ ?side1 ?side2 A42.out).mono ?_); (case side1 => repeat (first | exact (Kd.R_reads' HO_6.out).2.2 | (with_reducible refine Kd.C_alloc ?_ _) | (with_reducible refine Kd.C_drewN ?_ _) | (with_reducible refine Kd.C_drew ?_))); (case side2 => exact (Kd.R_reads' HO_6.out).2.1); rintro e w45 ⟨rfl, hb⟩; refine ⟨_, rfl, ?_⟩; have n0_ := Aside0.mk (Kd.R_below (by (with_reducible repeat (first | apply Kd.R_alloc | apply Kd.R_drewN | apply Kd.R_drew)); exact HO_6.out) hb); have n1_ := Aside0.mk (blk_below (g := gb192) (o := .cells #[.int .i64 a1_0, .int .i64 a1_1, .int .i64 a1_2] 31 (0, 0)) (by (with_reducible repeat (first | refine blk_drewN ?_ _ | refine blk_drew ?_ | refine blk_alloc ?_ _)); exact BK192.out) hb); have n2_ := Aside0.mk (blk_below (g := gb207) (o := .cells #[.int .i64 ((rd_T28 t203 0).f0), .int .i64 ((rd_T28 t203 0).f1), .int .i64 ((rd_T28 t203 0).f2), .int .i64 ((rd_T28 t203 0).f3), .int .i64 ((rd_T28 t203 0).f4)] 28 (0, 0)) (by (with_reducible repeat (first | refine blk_drewN ?_ _ | refine blk_drew ?_ | refine blk_alloc ?_ _)); exact BK207.out) hb); have n3_ := Aside0.mk (below_step (by repeat (first | (with_reducible first | exact HB.out | apply below_alloc | apply pw_below_drewN | apply below_drew1 | refine below_set ?_ GE192.out | refine below_set ?_ GE207.out) | exact HB.out)) hb); clear HO_6; clear BK192; clear BK207; clear HB; have HO_6 := n0_; have BK192 := n1_; have BK207 := n2_; have HB := n3_; clear n0_ n1_ n2_ n3_; (try clear hb); (try clear hb2); (try clear hk); (try clear hi); have hnb46 := NB207_192.out; have hnc46 := NB192_207.out; have hcz47_0 : w45.cell? ⟨gb207, 0, none⟩ = some (.int .i64 ((rd_T28 t203 0).f0)) := (blk_cell BK207.out 0).trans rfl; have hcz47_1 : w45.cell? ⟨gb207, 1, none⟩ = some (.int .i64 ((rd_T28 t203 0).f1)) := (blk_cell BK207.out 1).trans rfl; have hcz47_2 : w45.cell? ⟨gb207, 2, none⟩ = some (.int .i64 ((rd_T28 t203 0).f2)) := (blk_cell BK207.out 2).trans rfl; have hcz47_3 : w45.cell? ⟨gb207, 3, none⟩ = some (.int .i64 ((rd_T28 t203 0).f3)) := (blk_cell BK207.out 3).trans rfl; have hcz47_4 : w45.cell? ⟨gb207, 4, none⟩ = some (.int .i64 ((rd_T28 t203 0).f4)) := (blk_cell BK207.out 4).trans rfl; have hfz47_0 := blk_frozen BK207.out 0; have hfz47_1 := blk_frozen BK207.out 1; have hfz47_2 := blk_frozen BK207.out 2; have hfz47_3 := blk_frozen BK207.out 3; have hfz47_4 := blk_frozen BK207.out 4))
                  go_ret
                  exact ⟨by first | rfl | (simp [errW_none, errW_some] <;> rfl) | (simp [*, errW_none, errW_some] <;> rfl), by repeat (first | (with_reducible first | exact HB.out | apply below_alloc | apply pw_below_drewN | apply below_drew1 | refine below_set ?_ GE192.out | refine below_set ?_ GE207.out) | exact HB.out)⟩
                · rw [if_neg c44] at H
                  have c44b0 : (t208 == ((rd_T28 t203 0).f2)) = false := beq_eq_false_iff_ne.mpr c44
                  have c44b1 : (t208 != ((rd_T28 t203 0).f2)) = true := bne_iff_ne.mpr c44
                  by_cases c48 : t193 = true
                  · subst c48
                    have H1 : ((some (([] : List (S28)) : List (S28))).bind fun y211 => (if y211.length + x6_4.length < 3518437208883 then ((some (y211 ++ x6_4 : List (S28))).bind fun y214 => ((some (([(⟨((rd_T28 t203 0).f0), wrap64 (t208 + 1), ((rd_T28 t203 0).f2), ((rd_T28 t203 0).f3), ((rd_T28 t203 0).f4)⟩ : S28)] : List (S28)) : List (S28))).bind fun y217 => (if y214.length + y217.length < 3518437208883 then ((horariumref12_Test.f kj15 (y214 ++ y217)).bind fun t223 => (some (t223 == 17))) else (none)))) else (none))) = some r := by rw [if_pos rfl] at H; exact H
                    clear H
                    have H := H1
                    clear H1
                    obtain ⟨y211, hy211⟩ : ∃ y_ : List (S28), y_ = (([] : List (S28))) := ⟨_, rfl⟩
                    replace H : (if y211.length + x6_4.length < 3518437208883 then ((some (y211 ++ x6_4 : List (S28))).bind fun y214 => ((some (([(⟨((rd_T28 t203 0).f0), wrap64 (t208 + 1), ((rd_T28 t203 0).f2), ((rd_T28 t203 0).f3), ((rd_T28 t203 0).f4)⟩ : S28)] : List (S28)) : List (S28))).bind fun y217 => (if y214.length + y217.length < 3518437208883 then ((horariumref12_Test.f kj15 (y214 ++ y217)).bind fun t223 => (some (t223 == 17))) else (none)))) else (none)) = some r := by first | (rw [hy211]; with_reducible exact H) | (have H2_ := (Option.bind_some _ _).symm.trans H; rw [hy211]; with_reducible exact H2_) | (have H2_ := (Option.bind_some _ _).symm.trans H; with_reducible exact H2_) | with_reducible exact H | (rw [hy211]; exact H) | exact H
                    have Ny211 := Aside0.mk hy211
                    clear hy211
                    by_cases c49 : y211.length + x6_4.length < 3518437208883
                    · rw [if_pos c49] at H
                      have LMc49 := Aside0.mk c49
                      clear c49
                      obtain ⟨y214, hy214⟩ : ∃ y_ : List (S28), y_ = (y211 ++ x6_4) := ⟨_, rfl⟩
                      replace H : ((some (([(⟨((rd_T28 t203 0).f0), wrap64 (t208 + 1), ((rd_T28 t203 0).f2), ((rd_T28 t203 0).f3), ((rd_T28 t203 0).f4)⟩ : S28)] : List (S28)) : List (S28))).bind fun y217 => (if y214.length + y217.length < 3518437208883 then ((horariumref12_Test.f kj15 (y214 ++ y217)).bind fun t223 => (some (t223 == 17))) else (none))) = some r := by first | (rw [hy214]; with_reducible exact H) | (have H2_ := (Option.bind_some _ _).symm.trans H; rw [hy214]; with_reducible exact H2_) | (have H2_ := (Option.bind_some _ _).symm.trans H; with_reducible exact H2_) | with_reducible exact H | (rw [hy214]; exact H) | exact H
                      have Ny214 := Aside0.mk hy214
                      clear hy214
                      obtain ⟨y217, hy217⟩ : ∃ y_ : List (S28), y_ = (([(⟨((rd_T28 t203 0).f0), wrap64 (t208 + 1), ((rd_T28 t203 0).f2), ((rd_T28 t203 0).f3), ((rd_T28 t203 0).f4)⟩ : S28)] : List (S28))) := ⟨_, rfl⟩
                      replace H : (if y214.length + y217.length < 3518437208883 then ((horariumref12_Test.f kj15 (y214 ++ y217)).bind fun t223 => (some (t223 == 17))) else (none)) = some r := by first | (rw [hy217]; with_reducible exact H) | (have H2_ := (Option.bind_some _ _).symm.trans H; rw [hy217]; with_reducible exact H2_) | (have H2_ := (Option.bind_some _ _).symm.trans H; with_reducible exact H2_) | with_reducible exact H | (rw [hy217]; exact H) | exact H
                      have Ny217 := Aside0.mk hy217
                      clear hy217
                      by_cases c50 : y214.length + y217.length < 3518437208883
                      · rw [if_pos c50] at H
                        have LMc50 := Aside0.mk c50
                        clear c50
                        obtain ⟨y220, hy220⟩ : ∃ y_ : List (S28), y_ = (y214 ++ y217) := ⟨_, rfl⟩
                        replace H : ((horariumref12_Test.f kj15 y220).bind fun t223 => (some (t223 == 17))) = some r := by first | (rw [hy220]; with_reducible exact H) | (have H2_ := (Option.bind_some _ _).symm.trans H; rw [hy220]; with_reducible exact H2_) | (have H2_ := (Option.bind_some _ _).symm.trans H; with_reducible exact H2_) | with_reducible exact H | (rw [hy220]; exact H) | exact H
                        have Ny220 := Aside0.mk hy220
                        clear hy220
                        replace H := Option.bind_eq_some_iff.mp H
                        obtain ⟨t223, A510, H⟩ := H
                        replace H : (some (t223 == 17)) = some r := H
                        have A51 := Aside0.mk A510
                        clear A510
                        obtain rfl := Option.some.inj H
                        try go_wp2_with (first | ((with_reducible refine gate_callee (f := 37) rfl ?_); refine goesL_ (some 41) rfl rfl Try.func37 (by kernel_rfl) rfl #[.slice Ao26 x6_4.length co26] rfl (by (try simp only [List.map_toArray, List.map_cons, List.map_nil]); first | done | rfl | (simp only [List.length_drop, List.length_take]; rfl)) ?_; (with_reducible refine (horariumref12_Test.calls kj15 _ _ x6_4 t210 _ ?side1 ?side2 A42.out).mono ?_); (case side1 => repeat (first | exact (Kd.R_reads' HO_6.out).2.2 | (with_reducible refine Kd.C_alloc ?_ _) | (with_reducible refine Kd.C_drewN ?_ _) | (with_reducible refine Kd.C_drew ?_))); (case side2 => exact (Kd.R_reads' HO_6.out).2.1); rintro e w52 ⟨rfl, hb⟩; refine ⟨_, rfl, ?_⟩; have n0_ := Aside0.mk (Kd.R_below (by (with_reducible repeat (first | apply Kd.R_alloc | apply Kd.R_drewN | apply Kd.R_drew)); exact HO_6.out) hb); have n1_ := Aside0.mk (blk_below (g := gb192) (o := .cells #[.int .i64 a1_0, .int .i64 a1_1, .int .i64 a1_2] 31 (0, 0)) (by (with_reducible repeat (first | refine blk_drewN ?_ _ | refine blk_drew ?_ | refine blk_alloc ?_ _)); exact BK192.out) hb); have n2_ := Aside0.mk (blk_below (g := gb207) (o := .cells #[.int .i64 ((rd_T28 t203 0).f0), .int .i64 ((rd_T28 t203 0).f1), .int .i64 ((rd_T28 t203 0).f2), .int .i64 ((rd_T28 t203 0).f3), .int .i64 ((rd_T28 t203 0).f4)] 28 (0, 0)) (by (with_reducible repeat (first | refine blk_drewN ?_ _ | refine blk_drew ?_ | refine blk_alloc ?_ _)); exact BK207.out) hb); have n3_ := Aside0.mk (below_step (by repeat (first | (with_reducible first | exact HB.out | apply below_alloc | apply pw_below_drewN | apply below_drew1 | refine below_set ?_ GE192.out | refine below_set ?_ GE207.out) | exact HB.out)) hb); clear HO_6; clear BK192; clear BK207; clear HB; have HO_6 := n0_; have BK192 := n1_; have BK207 := n2_; have HB := n3_; clear n0_ n1_ n2_ n3_; (try clear hb); (try clear hb2); (try clear hk); (try clear hi); have hnb53 := NB207_192.out; have hnc53 := NB192_207.out; have hcz54_0 : w52.cell? ⟨gb207, 0, none⟩ = some (.int .i64 ((rd_T28 t203 0).f0)) := (blk_cell BK207.out 0).trans rfl; have hcz54_1 : w52.cell? ⟨gb207, 1, none⟩ = some (.int .i64 ((rd_T28 t203 0).f1)) := (blk_cell BK207.out 1).trans rfl; have hcz54_2 : w52.cell? ⟨gb207, 2, none⟩ = some (.int .i64 ((rd_T28 t203 0).f2)) := (blk_cell BK207.out 2).trans rfl; have hcz54_3 : w52.cell? ⟨gb207, 3, none⟩ = some (.int .i64 ((rd_T28 t203 0).f3)) := (blk_cell BK207.out 3).trans rfl; have hcz54_4 : w52.cell? ⟨gb207, 4, none⟩ = some (.int .i64 ((rd_T28 t203 0).f4)) := (blk_cell BK207.out 4).trans rfl; have hfz54_0 := blk_frozen BK207.out 0; have hfz54_1 := blk_frozen BK207.out 1; have hfz54_2 := blk_frozen BK207.out 2; have hfz54_3 := blk_frozen BK207.out 3; have hfz54_4 := blk_frozen BK207.out 4))
                        have n0_ : Aside0 (Kd.R k28 28 (w52.setCell ⟨gb207, 1, none⟩ (.int .i64 (wrap64 (t208 + 1)))) w.heap.size (fun k_ => k_ ≠ gb207) (.slice Ao26 x6_4.length co26) x6_4) := ⟨by (with_reducible repeat (first | apply Kd.R_alloc | apply Kd.R_drewN | apply Kd.R_drew)); exact Kd.R_mono (Kd.R_far (p := ⟨gb207, 1, none⟩) (Kd.R_mono HO_6.out (fun k_ hk => (⟨hk, hk⟩ : _ ∧ k_ ≠ gb207))) (fun _ hk => hk.2) (.int .i64 (wrap64 (t208 + 1)))) (fun _ hk => hk.1)⟩
                        have n1_ : Aside0 ((w52.setCell ⟨gb207, 1, none⟩ (.int .i64 (wrap64 (t208 + 1)))).heap[gb192]? = some (.cells #[.int .i64 a1_0, .int .i64 a1_1, .int .i64 a1_2] 31 (0, 0))) := ⟨by (with_reducible repeat (first | refine blk_drewN ?_ _ | refine blk_drew ?_ | refine blk_alloc ?_ _)); refine blk_far ?_ NB192_207.out _; (with_reducible repeat (first | refine blk_drewN ?_ _ | refine blk_drew ?_ | refine blk_alloc ?_ _)); exact BK192.out⟩
                        have n2_ : Aside0 ((w52.setCell ⟨gb207, 1, none⟩ (.int .i64 (wrap64 (t208 + 1)))).heap[gb207]? = some (.cells #[.int .i64 ((rd_T28 t203 0).f0), .int .i64 (wrap64 (t208 + 1)), .int .i64 ((rd_T28 t203 0).f2), .int .i64 ((rd_T28 t203 0).f3), .int .i64 ((rd_T28 t203 0).f4)] 28 (0, 0))) := ⟨by (with_reducible repeat (first | refine blk_drewN ?_ _ | refine blk_drew ?_ | refine blk_alloc ?_ _)); refine blk_put (cs := #[.int .i64 ((rd_T28 t203 0).f0), .int .i64 ((rd_T28 t203 0).f1), .int .i64 ((rd_T28 t203 0).f2), .int .i64 ((rd_T28 t203 0).f3), .int .i64 ((rd_T28 t203 0).f4)]) ?_ 1 _ rfl; (with_reducible repeat (first | refine blk_drewN ?_ _ | refine blk_drew ?_ | refine blk_alloc ?_ _)); exact BK207.out⟩
                        have n3_ : Aside0 (Below w.heap.size w (w52.setCell ⟨gb207, 1, none⟩ (.int .i64 (wrap64 (t208 + 1))))) := ⟨by repeat (first | (with_reducible first | exact HB.out | apply below_alloc | apply pw_below_drewN | apply below_drew1 | refine below_set ?_ GE192.out | refine below_set ?_ GE207.out) | exact HB.out)⟩
                        (try clear HO_6)
                        (try clear BK192)
                        (try clear BK207)
                        (try clear HB)
                        generalize (w52.setCell ⟨gb207, 1, none⟩ (.int .i64 (wrap64 (t208 + 1)))) = w55 at n0_ n1_ n2_ n3_ ⊢
                        have HO_6 := n0_
                        have BK192 := n1_
                        have BK207 := n2_
                        have HB := n3_
                        clear n0_ n1_ n2_ n3_
                        have n0_ := Aside0.mk (Kd.R_drew HO_6.out)
                        have n1_ := Aside0.mk (blk_drew BK192.out)
                        have n2_ := Aside0.mk (blk_drew BK207.out)
                        have n3_ := Aside0.mk (below_drew1 HB.out)
                        clear HO_6
                        clear BK192
                        clear BK207
                        clear HB
                        have HO_6 := n0_
                        have BK192 := n1_
                        have BK207 := n2_
                        have HB := n3_
                        clear n0_ n1_ n2_ n3_
                        refine start_ (n := 12) (S := fun w' => w'.cell? ⟨gb207, 0, none⟩ = some (.int .i64 ((rd_T28 t203 0).f0)) ∧ w'.cell? ⟨gb207, 1, none⟩ = some (.int .i64 (wrap64 (t208 + 1))) ∧ w'.cell? ⟨gb207, 2, none⟩ = some (.int .i64 ((rd_T28 t203 0).f2)) ∧ w'.cell? ⟨gb207, 3, none⟩ = some (.int .i64 ((rd_T28 t203 0).f3)) ∧ w'.cell? ⟨gb207, 4, none⟩ = some (.int .i64 ((rd_T28 t203 0).f4))) (ds := []) #[false, false, false, false, false, false, false, false, false, false, false, false] (by kernel_rfl) rfl rfl ⟨(blk_cell BK207.out 0).trans rfl, (blk_cell BK207.out 1).trans rfl, (blk_cell BK207.out 2).trans rfl, (blk_cell BK207.out 3).trans rfl, (blk_cell BK207.out 4).trans rfl⟩ (fun hHeld => ?_); refine with_tabW horariumlaw12_QpaRoom.tab14 horariumlaw12_QpaRoom.bits14 (fun HT_ HW_ => ?_)
                        generalize w55.drew = w56 at HO_6 BK192 BK207 HB hHeld ⊢
                        refine pure_ (i := 0) (N := some 56) (v := ?_) (a' := ?_) #[true, false, false, false, false, false, false, false, false, false, false, false] rfl rfl (any_of HT_.out (by kernel_rfl)) (fun _ _ _ h => h) (Or.inl ⟨by rfl, ?_⟩) ?_ ?_
                        rotate_left
                        · intro w'
                          go_simp
                          with_reducible rfl
                        rotate_left
                        · simp only [Act.put, List.setIfInBounds_toArray, List.set_cons_zero, List.set_cons_succ, i64_w, i32_w]
                          rfl
                        refine pure_ (i := 1) (N := some 57) (v := ?_) (a' := ?_) #[true, true, false, false, false, false, false, false, false, false, false, false] rfl rfl (any_of HT_.out (by kernel_rfl)) (fun _ _ _ h => h) (Or.inl ⟨by rfl, ?_⟩) ?_ ?_
                        rotate_left
                        · intro w'
                          go_simp
                          with_reducible rfl
                        rotate_left
                        · simp only [Act.put, List.setIfInBounds_toArray, List.set_cons_zero, List.set_cons_succ, i64_w, i32_w]
                          rfl
                        refine pure_ (i := 3) (N := some 59) (v := ?_) (a' := ?_) #[true, true, false, true, false, false, false, false, false, false, false, false] rfl rfl (any_of HT_.out (by kernel_rfl)) (fun _ _ _ h => h) (Or.inl ⟨by rfl, ?_⟩) ?_ ?_
                        rotate_left
                        · intro w'
                          go_simp
                          with_reducible rfl
                        rotate_left
                        · simp only [Act.put, List.setIfInBounds_toArray, List.set_cons_zero, List.set_cons_succ, i64_w, i32_w]
                          rfl
                        refine take_ (i := 5) (N := some 61) (v := ?_) (a' := ?_) #[true, true, false, true, false, true, false, false, false, false, false, false] rfl rfl (take_ofW HT_.out HW_.out (by kernel_rfl)) (fun _ _ _ h => h) (Or.inl ⟨by rfl, ?_⟩) hHeld ?_ ?_
                        rotate_left
                        · rintro w' ⟨s0, s1, s2, s3, s4⟩
                          go_simp
                          with_reducible rfl
                        rotate_left
                        · simp only [Act.put, List.setIfInBounds_toArray, List.set_cons_zero, List.set_cons_succ, i64_w, i32_w]
                          rfl
                        refine join_ (σ := Value × Value × Value) 5 #[true, true, true, true, true, true, true, false, false, false, false, false] (fun s_ => [(58, s_.1), (60, s_.2.1), (62, s_.2.2)]) (fun s_ w' => (w'.cell? ⟨gb207, 0, none⟩ = some (.int .i64 ((rd_T28 t203 0).f0)) ∧ w'.cell? ⟨gb207, 1, none⟩ = some (.int .i64 (wrap64 (t208 + 1))) ∧ w'.cell? ⟨gb207, 2, none⟩ = some (.int .i64 ((rd_T28 t203 0).f2)) ∧ w'.cell? ⟨gb207, 3, none⟩ = some (.int .i64 ((rd_T28 t203 0).f3)) ∧ w'.cell? ⟨gb207, 4, none⟩ = some (.int .i64 ((rd_T28 t203 0).f4))) ∧ (Kd.R k28 28 w' w.heap.size (fun k_ => some k_ ≠ (s_.2.2 : Value).ownBlock ∧ some k_ ≠ (.slice Ao26 x6_4.length co26 : Value).ownBlock ∧ k_ ≠ gb207) s_.2.1 y214) ∧ (Kd.R k28 28 w' w.heap.size (fun k_ => some k_ ≠ (s_.2.1 : Value).ownBlock ∧ some k_ ≠ (.slice Ao26 x6_4.length co26 : Value).ownBlock ∧ k_ ≠ gb207) s_.2.2 y217) ∧ (Kd.R k28 28 w' w.heap.size (fun k_ => some k_ ≠ (s_.2.1 : Value).ownBlock ∧ some k_ ≠ (s_.2.2 : Value).ownBlock ∧ k_ ≠ gb207) (.slice Ao26 x6_4.length co26) x6_4) ∧ (w'.heap[gb192]? = some (.cells #[.int .i64 a1_0, .int .i64 a1_1, .int .i64 a1_2] 31 (0, 0))) ∧ (w'.heap[gb207]? = some (.cells #[.int .i64 ((rd_T28 t203 0).f0), .int .i64 (wrap64 (t208 + 1)), .int .i64 ((rd_T28 t203 0).f2), .int .i64 ((rd_T28 t203 0).f3), .int .i64 ((rd_T28 t203 0).f4)] 28 (0, 0))) ∧ (Below w.heap.size w w')) ?_ ?_
                        rotate_left
                        · intro hCont
                          refine two_ (i := 2) (j := 6) (Ni := some 58) (Nj := some 62) #[true, true, true, true, false, true, false, false, false, false, false, false] #[true, true, false, true, false, true, true, false, false, false, false, false] rfl rfl rfl rfl (two_of HT_.out (by kernel_rfl)) (by decide) (by decide) (fun K hK => ?_) (fun K hK => ?_)
                          · skip
                            refine Kd.R_lit_step k28 _ 28 ?hg (N := 58) ?hd (xs := ([] : List (S28))) (inner := []) (ok := fun _ => True) (okp := fun _ => True) ?hr ?hp (fun _ hk => hk) trivial (Below.refl _ _) (Nat.le_refl _) (by simp) ?_; (case hd => rfl); (case hg => rfl); (case hr => first | (go_simp; done) | (go_simp; rfl)); (case hp => exact (Reps.none _ _))
                            intro v212 w57 ho58 hb hg_ hnew_
                            clear hg_ hnew_
                            (first | rw [← Ny211.out] at ho58 | (simp only [Int.reduceToNat] at ho58; rw [← Ny211.out] at ho58))
                            have n0_ := Aside0.mk (Kd.R_elder' (by (with_reducible repeat (first | apply Kd.R_alloc | apply Kd.R_drewN | apply Kd.R_drew)); exact HO_6.out) (Kd.R_base ho58) hb)
                            have n1_ := Aside0.mk (Kd.R_lower (Kd.R_newB (Kd.R_new' ho58 (Kd.R_lt (by (with_reducible repeat (first | apply Kd.R_alloc | apply Kd.R_drewN | apply Kd.R_drew)); exact HO_6.out))) (g := gb207) (o := .cells #[.int .i64 ((rd_T28 t203 0).f0), .int .i64 (wrap64 (t208 + 1)), .int .i64 ((rd_T28 t203 0).f2), .int .i64 ((rd_T28 t203 0).f3), .int .i64 ((rd_T28 t203 0).f4)] 28 (0, 0)) (by (with_reducible repeat (first | refine blk_drewN ?_ _ | refine blk_drew ?_ | refine blk_alloc ?_ _)); exact BK207.out)) (below_size (by repeat (first | (with_reducible first | exact HB.out | apply below_alloc | apply pw_below_drewN | apply below_drew1 | refine below_set ?_ GE192.out | refine below_set ?_ GE207.out) | exact HB.out))))
                            have n2_ := Aside0.mk (blk_below (g := gb192) (o := .cells #[.int .i64 a1_0, .int .i64 a1_1, .int .i64 a1_2] 31 (0, 0)) (by (with_reducible repeat (first | refine blk_drewN ?_ _ | refine blk_drew ?_ | refine blk_alloc ?_ _)); exact BK192.out) hb)
                            have n3_ := Aside0.mk (blk_below (g := gb207) (o := .cells #[.int .i64 ((rd_T28 t203 0).f0), .int .i64 (wrap64 (t208 + 1)), .int .i64 ((rd_T28 t203 0).f2), .int .i64 ((rd_T28 t203 0).f3), .int .i64 ((rd_T28 t203 0).f4)] 28 (0, 0)) (by (with_reducible repeat (first | refine blk_drewN ?_ _ | refine blk_drew ?_ | refine blk_alloc ?_ _)); exact BK207.out) hb)
                            have n4_ := Aside0.mk (below_step (by repeat (first | (with_reducible first | exact HB.out | apply below_alloc | apply pw_below_drewN | apply below_drew1 | refine below_set ?_ GE192.out | refine below_set ?_ GE207.out) | exact HB.out)) hb)
                            clear HO_6
                            clear BK192
                            clear BK207
                            clear HB
                            have HO_6 := n0_
                            have HO213 := n1_
                            have BK192 := n2_
                            have BK207 := n3_
                            have HB := n4_
                            clear n0_ n1_ n2_ n3_ n4_
                            clear hb ho58
                            refine hK.out _ _ ⟨(blk_cell BK207.out 0).trans rfl, (blk_cell BK207.out 1).trans rfl, (blk_cell BK207.out 2).trans rfl, (blk_cell BK207.out 3).trans rfl, (blk_cell BK207.out 4).trans rfl⟩ (fun hHeld => ?_)
                            clear hK K
                            refine norm_ (a' := ?_) ?_ ?_
                            rotate_left
                            · show Act.put _ (some 58) _ = _
                              simp only [Act.put, List.setIfInBounds_toArray, List.set_cons_zero, List.set_cons_succ, i64_w, i32_w]
                              rfl
                            refine two_ (i := 4) (j := 6) (Ni := some 60) (Nj := some 62) #[true, true, true, true, true, true, false, false, false, false, false, false] #[true, true, true, true, false, true, true, false, false, false, false, false] rfl rfl rfl rfl (two_of HT_.out (by kernel_rfl)) (by decide) (by decide) (fun K hK => ?_) (fun K hK => ?_)
                            · skip
                              refine Kd.R_append_rows_step k28 (w0 := w) w.heap.size (by rfl) (.tmp 58) (.tmp 59) 24 28 (.agg #[(.int .i64 0), (.int .i64 0), (.int .i64 0), (.int .i64 0), (.int .i64 0)]) 40 rfl Try.underlying24 info28 rfl (by decide) (by omega) v212 y211 x6_4 _ _ _ (fun k_ => some k_ ≠ (.slice Ao26 x6_4.length co26 : Value).ownBlock ∧ k_ ≠ gb207) (fun _ => False) rfl rfl ?aO ?aR (fun _ _ h => h) (fun _ h => h.elim) ?aF ?aB ?aS ?aL ?_
                              (case aR => repeat (first | exact (Kd.R_reads' HO_6.out).2.2 | (with_reducible refine Kd.C_alloc ?_ _) | (with_reducible refine Kd.C_drewN ?_ _) | (with_reducible refine Kd.C_drew ?_)))
                              (case aB => exact (by repeat (first | (with_reducible first | exact HB.out | apply below_alloc | apply pw_below_drewN | apply below_drew1 | refine below_set ?_ GE192.out | refine below_set ?_ GE207.out) | exact HB.out)))
                              (case aF => exact (fun k_ hk => ⟨Kd.fresh' (Kd.R_lt (by (with_reducible repeat (first | apply Kd.R_alloc | apply Kd.R_drewN | apply Kd.R_drew)); exact HO_6.out)) k_ hk, Kd.freshB (g := gb207) (o := .cells #[.int .i64 ((rd_T28 t203 0).f0), .int .i64 (wrap64 (t208 + 1)), .int .i64 ((rd_T28 t203 0).f2), .int .i64 ((rd_T28 t203 0).f3), .int .i64 ((rd_T28 t203 0).f4)] 28 (0, 0)) (by (with_reducible repeat (first | refine blk_drewN ?_ _ | refine blk_drew ?_ | refine blk_alloc ?_ _)); exact BK207.out) k_ hk⟩))
                              (case aO => exact (by (with_reducible repeat (first | apply Kd.R_alloc | apply Kd.R_drewN | apply Kd.R_drew)); exact Kd.R_mono HO213.out (fun _ hk => ⟨hk.1.2, hk.2⟩)))
                              (case aS => exact (below_size (by repeat (first | (with_reducible first | exact HB.out | apply below_alloc | apply pw_below_drewN | apply below_drew1 | refine below_set ?_ GE192.out | refine below_set ?_ GE207.out) | exact HB.out))))
                              (case aL => have := LMc49.out; omega)
                              intro v215 w59 ho hb hg hat
                              rw [← Ny214.out] at ho
                              have n0_ := Aside0.mk (Kd.R_after (ok := (fun k_ => k_ ≠ gb207)) (by (with_reducible repeat (first | apply Kd.R_alloc | apply Kd.R_drewN | apply Kd.R_drew)); exact HO_6.out) hg hat)
                              have n1_ := Aside0.mk (blk_grown (g := gb192) (o := .cells #[.int .i64 a1_0, .int .i64 a1_1, .int .i64 a1_2] 31 (0, 0)) (by (with_reducible repeat (first | refine blk_drewN ?_ _ | refine blk_drew ?_ | refine blk_alloc ?_ _)); exact BK192.out) hg (Kd.R_ne HO213.out BK192.out (by decide)))
                              have n2_ := Aside0.mk (blk_grown (g := gb207) (o := .cells #[.int .i64 ((rd_T28 t203 0).f0), .int .i64 (wrap64 (t208 + 1)), .int .i64 ((rd_T28 t203 0).f2), .int .i64 ((rd_T28 t203 0).f3), .int .i64 ((rd_T28 t203 0).f4)] 28 (0, 0)) (by (with_reducible repeat (first | refine blk_drewN ?_ _ | refine blk_drew ?_ | refine blk_alloc ?_ _)); exact BK207.out) hg (Kd.R_away HO213.out (fun _ hk => hk.2)))
                              have n3_ := Aside0.mk (hb)
                              have n4_ := Aside0.mk (ho)
                              clear HO_6
                              clear BK192
                              clear BK207
                              clear HB
                              clear HO213
                              have HO_6 := n0_
                              have BK192 := n1_
                              have BK207 := n2_
                              have HB := n3_
                              have HO216 := n4_
                              clear n0_ n1_ n2_ n3_ n4_
                              clear ho hb hg hat
                              refine hK.out _ _ ⟨(blk_cell BK207.out 0).trans rfl, (blk_cell BK207.out 1).trans rfl, (blk_cell BK207.out 2).trans rfl, (blk_cell BK207.out 3).trans rfl, (blk_cell BK207.out 4).trans rfl⟩ (fun hHeld => ?_)
                              clear hK K
                              refine norm_ (a' := ?_) ?_ ?_
                              rotate_left
                              · show Act.put _ (some 60) _ = _
                                simp only [Act.put, List.setIfInBounds_toArray, List.set_cons_zero, List.set_cons_succ, i64_w, i32_w]
                                rfl
                              refine one_ (i := 6) (N := some 62) #[true, true, true, true, true, true, true, false, false, false, false, false] rfl rfl (one_of HT_.out (by kernel_rfl)) (by decide) (fun K hK => ?_)
                              refine Kd.R_lit_step k28 _ 28 ?hg (N := 62) ?hd (xs := ([(⟨((rd_T28 t203 0).f0), wrap64 (t208 + 1), ((rd_T28 t203 0).f2), ((rd_T28 t203 0).f3), ((rd_T28 t203 0).f4)⟩ : S28)] : List (S28))) (inner := [.int .i64 ((rd_T28 t203 0).f0), .int .i64 (wrap64 (t208 + 1)), .int .i64 ((rd_T28 t203 0).f2), .int .i64 ((rd_T28 t203 0).f3), .int .i64 ((rd_T28 t203 0).f4)]) (ok := fun _ => True) (okp := fun _ => True) ?hr ?hp (fun _ hk => hk) trivial (Below.refl _ _) (Nat.le_refl _) (by simp) ?_; (case hd => rfl); (case hg => rfl); (case hr => first | (go_simp; done) | (go_simp; rfl)); (case hp => exact (Reps.c5 (show Kd.M k28 _ _ _ (⟨((rd_T28 t203 0).f0), wrap64 (t208 + 1), ((rd_T28 t203 0).f2), ((rd_T28 t203 0).f3), ((rd_T28 t203 0).f4)⟩ : S28) [.int .i64 ((rd_T28 t203 0).f0), .int .i64 (wrap64 (t208 + 1)), .int .i64 ((rd_T28 t203 0).f2), .int .i64 ((rd_T28 t203 0).f3), .int .i64 ((rd_T28 t203 0).f4)] from (k28_mkM _ _ _ (⟨((rd_T28 t203 0).f0), wrap64 (t208 + 1), ((rd_T28 t203 0).f2), ((rd_T28 t203 0).f3), ((rd_T28 t203 0).f4)⟩ : S28) )) (Reps.none _ _)))
                              intro v218 w60 ho61 hb hg_ hnew_
                              clear hg_ hnew_
                              (first | rw [← Ny217.out] at ho61 | (simp only [Int.reduceToNat] at ho61; rw [← Ny217.out] at ho61))
                              have n0_ := Aside0.mk (Kd.R_elder' (by (with_reducible repeat (first | apply Kd.R_alloc | apply Kd.R_drewN | apply Kd.R_drew)); exact HO_6.out) (Kd.R_base ho61) hb)
                              have n1_ := Aside0.mk (Kd.R_elder' (by (with_reducible repeat (first | apply Kd.R_alloc | apply Kd.R_drewN | apply Kd.R_drew)); exact HO216.out) (Kd.R_base ho61) hb)
                              have n2_ := Aside0.mk (Kd.R_lower (Kd.R_newB (Kd.R_new' (Kd.R_new' ho61 (Kd.R_lt (by (with_reducible repeat (first | apply Kd.R_alloc | apply Kd.R_drewN | apply Kd.R_drew)); exact HO_6.out))) (Kd.R_lt (by (with_reducible repeat (first | apply Kd.R_alloc | apply Kd.R_drewN | apply Kd.R_drew)); exact HO216.out))) (g := gb207) (o := .cells #[.int .i64 ((rd_T28 t203 0).f0), .int .i64 (wrap64 (t208 + 1)), .int .i64 ((rd_T28 t203 0).f2), .int .i64 ((rd_T28 t203 0).f3), .int .i64 ((rd_T28 t203 0).f4)] 28 (0, 0)) (by (with_reducible repeat (first | refine blk_drewN ?_ _ | refine blk_drew ?_ | refine blk_alloc ?_ _)); exact BK207.out)) (below_size (by repeat (first | (with_reducible first | exact HB.out | apply below_alloc | apply pw_below_drewN | apply below_drew1 | refine below_set ?_ GE192.out | refine below_set ?_ GE207.out) | exact HB.out))))
                              have n3_ := Aside0.mk (blk_below (g := gb192) (o := .cells #[.int .i64 a1_0, .int .i64 a1_1, .int .i64 a1_2] 31 (0, 0)) (by (with_reducible repeat (first | refine blk_drewN ?_ _ | refine blk_drew ?_ | refine blk_alloc ?_ _)); exact BK192.out) hb)
                              have n4_ := Aside0.mk (blk_below (g := gb207) (o := .cells #[.int .i64 ((rd_T28 t203 0).f0), .int .i64 (wrap64 (t208 + 1)), .int .i64 ((rd_T28 t203 0).f2), .int .i64 ((rd_T28 t203 0).f3), .int .i64 ((rd_T28 t203 0).f4)] 28 (0, 0)) (by (with_reducible repeat (first | refine blk_drewN ?_ _ | refine blk_drew ?_ | refine blk_alloc ?_ _)); exact BK207.out) hb)
                              have n5_ := Aside0.mk (below_step (by repeat (first | (with_reducible first | exact HB.out | apply below_alloc | apply pw_below_drewN | apply below_drew1 | refine below_set ?_ GE192.out | refine below_set ?_ GE207.out) | exact HB.out)) hb)
                              clear HO_6
                              clear HO216
                              clear BK192
                              clear BK207
                              clear HB
                              have HO_6 := n0_
                              have HO216 := n1_
                              have HO219 := n2_
                              have BK192 := n3_
                              have BK207 := n4_
                              have HB := n5_
                              clear n0_ n1_ n2_ n3_ n4_ n5_
                              clear hb ho61
                              refine hK.out _ _ ⟨(blk_cell BK207.out 0).trans rfl, (blk_cell BK207.out 1).trans rfl, (blk_cell BK207.out 2).trans rfl, (blk_cell BK207.out 3).trans rfl, (blk_cell BK207.out 4).trans rfl⟩ (fun hHeld => ?_)
                              clear hK K
                              refine norm_ (a' := ?_) ?_ ?_
                              rotate_left
                              · show Act.put _ (some 62) _ = _
                                simp only [Act.put, List.setIfInBounds_toArray, List.set_cons_zero, List.set_cons_succ, i64_w, i32_w]
                                rfl
                              exact norm_ (by simp only [putAll, Act.put, List.setIfInBounds_toArray, List.set_cons_zero, List.set_cons_succ]) (hCont (v212, v215, v218) _ ⟨hHeld, (by (with_reducible repeat (first | apply Kd.R_alloc | apply Kd.R_drewN | apply Kd.R_drew)); exact Kd.R_mono HO216.out (fun _ hk => ⟨hk.2, ⟨hk.1.1, hk.1.2⟩⟩)), (by (with_reducible repeat (first | apply Kd.R_alloc | apply Kd.R_drewN | apply Kd.R_drew)); exact Kd.R_mono HO219.out (fun _ hk => ⟨hk.1.2, ⟨hk.1.1.2, hk.2⟩⟩)), (by (with_reducible repeat (first | apply Kd.R_alloc | apply Kd.R_drewN | apply Kd.R_drew)); exact Kd.R_mono HO_6.out (fun _ hk => ⟨hk.1.2, ⟨hk.2, hk.1.1⟩⟩)), (by (with_reducible repeat (first | refine blk_drewN ?_ _ | refine blk_drew ?_ | refine blk_alloc ?_ _)); exact BK192.out), (by (with_reducible repeat (first | refine blk_drewN ?_ _ | refine blk_drew ?_ | refine blk_alloc ?_ _)); exact BK207.out), (by repeat (first | (with_reducible first | exact HB.out | apply below_alloc | apply pw_below_drewN | apply below_drew1 | refine below_set ?_ GE192.out | refine below_set ?_ GE207.out) | exact HB.out))⟩)
                            · skip
                              refine Kd.R_lit_step k28 _ 28 ?hg (N := 62) ?hd (xs := ([(⟨((rd_T28 t203 0).f0), wrap64 (t208 + 1), ((rd_T28 t203 0).f2), ((rd_T28 t203 0).f3), ((rd_T28 t203 0).f4)⟩ : S28)] : List (S28))) (inner := [.int .i64 ((rd_T28 t203 0).f0), .int .i64 (wrap64 (t208 + 1)), .int .i64 ((rd_T28 t203 0).f2), .int .i64 ((rd_T28 t203 0).f3), .int .i64 ((rd_T28 t203 0).f4)]) (ok := fun _ => True) (okp := fun _ => True) ?hr ?hp (fun _ hk => hk) trivial (Below.refl _ _) (Nat.le_refl _) (by simp) ?_; (case hd => rfl); (case hg => rfl); (case hr => first | (go_simp; done) | (go_simp; rfl)); (case hp => exact (Reps.c5 (show Kd.M k28 _ _ _ (⟨((rd_T28 t203 0).f0), wrap64 (t208 + 1), ((rd_T28 t203 0).f2), ((rd_T28 t203 0).f3), ((rd_T28 t203 0).f4)⟩ : S28) [.int .i64 ((rd_T28 t203 0).f0), .int .i64 (wrap64 (t208 + 1)), .int .i64 ((rd_T28 t203 0).f2), .int .i64 ((rd_T28 t203 0).f3), .int .i64 ((rd_T28 t203 0).f4)] from (k28_mkM _ _ _ (⟨((rd_T28 t203 0).f0), wrap64 (t208 + 1), ((rd_T28 t203 0).f2), ((rd_T28 t203 0).f3), ((rd_T28 t203 0).f4)⟩ : S28) )) (Reps.none _ _)))
                              intro v218 w59 ho60 hb hg_ hnew_
                              clear hg_ hnew_
                              (first | rw [← Ny217.out] at ho60 | (simp only [Int.reduceToNat] at ho60; rw [← Ny217.out] at ho60))
                              have n0_ := Aside0.mk (Kd.R_elder' (by (with_reducible repeat (first | apply Kd.R_alloc | apply Kd.R_drewN | apply Kd.R_drew)); exact HO_6.out) (Kd.R_base ho60) hb)
                              have n1_ := Aside0.mk (Kd.R_elder' (by (with_reducible repeat (first | apply Kd.R_alloc | apply Kd.R_drewN | apply Kd.R_drew)); exact HO213.out) (Kd.R_base ho60) hb)
                              have n2_ := Aside0.mk (Kd.R_lower (Kd.R_newB (Kd.R_new' (Kd.R_new' ho60 (Kd.R_lt (by (with_reducible repeat (first | apply Kd.R_alloc | apply Kd.R_drewN | apply Kd.R_drew)); exact HO_6.out))) (Kd.R_lt (by (with_reducible repeat (first | apply Kd.R_alloc | apply Kd.R_drewN | apply Kd.R_drew)); exact HO213.out))) (g := gb207) (o := .cells #[.int .i64 ((rd_T28 t203 0).f0), .int .i64 (wrap64 (t208 + 1)), .int .i64 ((rd_T28 t203 0).f2), .int .i64 ((rd_T28 t203 0).f3), .int .i64 ((rd_T28 t203 0).f4)] 28 (0, 0)) (by (with_reducible repeat (first | refine blk_drewN ?_ _ | refine blk_drew ?_ | refine blk_alloc ?_ _)); exact BK207.out)) (below_size (by repeat (first | (with_reducible first | exact HB.out | apply below_alloc | apply pw_below_drewN | apply below_drew1 | refine below_set ?_ GE192.out | refine below_set ?_ GE207.out) | exact HB.out))))
                              have n3_ := Aside0.mk (blk_below (g := gb192) (o := .cells #[.int .i64 a1_0, .int .i64 a1_1, .int .i64 a1_2] 31 (0, 0)) (by (with_reducible repeat (first | refine blk_drewN ?_ _ | refine blk_drew ?_ | refine blk_alloc ?_ _)); exact BK192.out) hb)
                              have n4_ := Aside0.mk (blk_below (g := gb207) (o := .cells #[.int .i64 ((rd_T28 t203 0).f0), .int .i64 (wrap64 (t208 + 1)), .int .i64 ((rd_T28 t203 0).f2), .int .i64 ((rd_T28 t203 0).f3), .int .i64 ((rd_T28 t203 0).f4)] 28 (0, 0)) (by (with_reducible repeat (first | refine blk_drewN ?_ _ | refine blk_drew ?_ | refine blk_alloc ?_ _)); exact BK207.out) hb)
                              have n5_ := Aside0.mk (below_step (by repeat (first | (with_reducible first | exact HB.out | apply below_alloc | apply pw_below_drewN | apply below_drew1 | refine below_set ?_ GE192.out | refine below_set ?_ GE207.out) | exact HB.out)) hb)
                              clear HO_6
                              clear HO213
                              clear BK192
                              clear BK207
                              clear HB
                              have HO_6 := n0_
                              have HO213 := n1_
                              have HO219 := n2_
                              have BK192 := n3_
                              have BK207 := n4_
                              have HB := n5_
                              clear n0_ n1_ n2_ n3_ n4_ n5_
                              clear hb ho60
                              refine hK.out _ _ ⟨(blk_cell BK207.out 0).trans rfl, (blk_cell BK207.out 1).trans rfl, (blk_cell BK207.out 2).trans rfl, (blk_cell BK207.out 3).trans rfl, (blk_cell BK207.out 4).trans rfl⟩ (fun hHeld => ?_)
                              clear hK K
                              refine norm_ (a' := ?_) ?_ ?_
                              rotate_left
                              · show Act.put _ (some 62) _ = _
                                simp only [Act.put, List.setIfInBounds_toArray, List.set_cons_zero, List.set_cons_succ, i64_w, i32_w]
                                rfl
                              refine one_ (i := 4) (N := some 60) #[true, true, true, true, true, true, true, false, false, false, false, false] rfl rfl (one_of HT_.out (by kernel_rfl)) (by decide) (fun K hK => ?_)
                              refine Kd.R_append_rows_step k28 (w0 := w) w.heap.size (by rfl) (.tmp 58) (.tmp 59) 24 28 (.agg #[(.int .i64 0), (.int .i64 0), (.int .i64 0), (.int .i64 0), (.int .i64 0)]) 40 rfl Try.underlying24 info28 rfl (by decide) (by omega) v212 y211 x6_4 _ _ _ (fun k_ => some k_ ≠ (.slice Ao26 x6_4.length co26 : Value).ownBlock ∧ some k_ ≠ (v218 : Value).ownBlock ∧ k_ ≠ gb207) (fun _ => False) rfl rfl ?aO ?aR (fun _ _ h => h) (fun _ h => h.elim) ?aF ?aB ?aS ?aL ?_
                              (case aR => repeat (first | exact (Kd.R_reads' HO_6.out).2.2 | (with_reducible refine Kd.C_alloc ?_ _) | (with_reducible refine Kd.C_drewN ?_ _) | (with_reducible refine Kd.C_drew ?_)))
                              (case aB => exact (by repeat (first | (with_reducible first | exact HB.out | apply below_alloc | apply pw_below_drewN | apply below_drew1 | refine below_set ?_ GE192.out | refine below_set ?_ GE207.out) | exact HB.out)))
                              (case aF => exact (fun k_ hk => ⟨Kd.fresh' (Kd.R_lt (by (with_reducible repeat (first | apply Kd.R_alloc | apply Kd.R_drewN | apply Kd.R_drew)); exact HO_6.out)) k_ hk, Kd.fresh' (Kd.R_lt (by (with_reducible repeat (first | apply Kd.R_alloc | apply Kd.R_drewN | apply Kd.R_drew)); exact HO219.out)) k_ hk, Kd.freshB (g := gb207) (o := .cells #[.int .i64 ((rd_T28 t203 0).f0), .int .i64 (wrap64 (t208 + 1)), .int .i64 ((rd_T28 t203 0).f2), .int .i64 ((rd_T28 t203 0).f3), .int .i64 ((rd_T28 t203 0).f4)] 28 (0, 0)) (by (with_reducible repeat (first | refine blk_drewN ?_ _ | refine blk_drew ?_ | refine blk_alloc ?_ _)); exact BK207.out) k_ hk⟩))
                              (case aO => exact (by (with_reducible repeat (first | apply Kd.R_alloc | apply Kd.R_drewN | apply Kd.R_drew)); exact Kd.R_mono HO213.out (fun _ hk => ⟨hk.1.1.2, ⟨hk.2, hk.1.2⟩⟩)))
                              (case aS => exact (below_size (by repeat (first | (with_reducible first | exact HB.out | apply below_alloc | apply pw_below_drewN | apply below_drew1 | refine below_set ?_ GE192.out | refine below_set ?_ GE207.out) | exact HB.out))))
                              (case aL => have := LMc49.out; omega)
                              intro v215 w61 ho hb hg hat
                              rw [← Ny214.out] at ho
                              have n0_ := Aside0.mk (Kd.R_after (ok := (fun k_ => some k_ ≠ (v218 : Value).ownBlock ∧ k_ ≠ gb207)) (by (with_reducible repeat (first | apply Kd.R_alloc | apply Kd.R_drewN | apply Kd.R_drew)); exact Kd.R_mono HO_6.out (fun _ hk => ⟨⟨hk.2, hk.1.1⟩, hk.1.2⟩)) hg hat)
                              have n1_ := Aside0.mk (blk_grown (g := gb192) (o := .cells #[.int .i64 a1_0, .int .i64 a1_1, .int .i64 a1_2] 31 (0, 0)) (by (with_reducible repeat (first | refine blk_drewN ?_ _ | refine blk_drew ?_ | refine blk_alloc ?_ _)); exact BK192.out) hg (Kd.R_ne HO213.out BK192.out (by decide)))
                              have n2_ := Aside0.mk (blk_grown (g := gb207) (o := .cells #[.int .i64 ((rd_T28 t203 0).f0), .int .i64 (wrap64 (t208 + 1)), .int .i64 ((rd_T28 t203 0).f2), .int .i64 ((rd_T28 t203 0).f3), .int .i64 ((rd_T28 t203 0).f4)] 28 (0, 0)) (by (with_reducible repeat (first | refine blk_drewN ?_ _ | refine blk_drew ?_ | refine blk_alloc ?_ _)); exact BK207.out) hg (Kd.R_away HO213.out (fun _ hk => hk.1.2)))
                              have n3_ := Aside0.mk (Kd.R_after (ok := (fun k_ => some k_ ≠ (.slice Ao26 x6_4.length co26 : Value).ownBlock ∧ k_ ≠ gb207)) (by (with_reducible repeat (first | apply Kd.R_alloc | apply Kd.R_drewN | apply Kd.R_drew)); exact Kd.R_mono HO219.out (fun _ hk => ⟨⟨hk.1.1.2, hk.2⟩, hk.1.2⟩)) hg hat)
                              have n4_ := Aside0.mk (hb)
                              have n5_ := Aside0.mk (ho)
                              clear HO_6
                              clear BK192
                              clear BK207
                              clear HO219
                              clear HB
                              clear HO213
                              have HO_6 := n0_
                              have BK192 := n1_
                              have BK207 := n2_
                              have HO219 := n3_
                              have HB := n4_
                              have HO216 := n5_
                              clear n0_ n1_ n2_ n3_ n4_ n5_
                              clear ho hb hg hat
                              refine hK.out _ _ ⟨(blk_cell BK207.out 0).trans rfl, (blk_cell BK207.out 1).trans rfl, (blk_cell BK207.out 2).trans rfl, (blk_cell BK207.out 3).trans rfl, (blk_cell BK207.out 4).trans rfl⟩ (fun hHeld => ?_)
                              clear hK K
                              refine norm_ (a' := ?_) ?_ ?_
                              rotate_left
                              · show Act.put _ (some 60) _ = _
                                simp only [Act.put, List.setIfInBounds_toArray, List.set_cons_zero, List.set_cons_succ, i64_w, i32_w]
                                rfl
                              exact norm_ (by simp only [putAll, Act.put, List.setIfInBounds_toArray, List.set_cons_zero, List.set_cons_succ]) (hCont (v212, v215, v218) _ ⟨hHeld, (by (with_reducible repeat (first | apply Kd.R_alloc | apply Kd.R_drewN | apply Kd.R_drew)); exact Kd.R_mono HO216.out (fun _ hk => ⟨hk.2.1, ⟨hk.1, hk.2.2⟩⟩)), (by (with_reducible repeat (first | apply Kd.R_alloc | apply Kd.R_drewN | apply Kd.R_drew)); exact Kd.R_mono HO219.out (fun _ hk => ⟨hk.2, ⟨hk.1.1, hk.1.2⟩⟩)), (by (with_reducible repeat (first | apply Kd.R_alloc | apply Kd.R_drewN | apply Kd.R_drew)); exact Kd.R_mono HO_6.out (fun _ hk => ⟨hk.2, ⟨hk.1.1, hk.1.2⟩⟩)), (by (with_reducible repeat (first | refine blk_drewN ?_ _ | refine blk_drew ?_ | refine blk_alloc ?_ _)); exact BK192.out), (by (with_reducible repeat (first | refine blk_drewN ?_ _ | refine blk_drew ?_ | refine blk_alloc ?_ _)); exact BK207.out), (by repeat (first | (with_reducible first | exact HB.out | apply below_alloc | apply pw_below_drewN | apply below_drew1 | refine below_set ?_ GE192.out | refine below_set ?_ GE207.out) | exact HB.out))⟩)
                          · skip
                            refine Kd.R_lit_step k28 _ 28 ?hg (N := 62) ?hd (xs := ([(⟨((rd_T28 t203 0).f0), wrap64 (t208 + 1), ((rd_T28 t203 0).f2), ((rd_T28 t203 0).f3), ((rd_T28 t203 0).f4)⟩ : S28)] : List (S28))) (inner := [.int .i64 ((rd_T28 t203 0).f0), .int .i64 (wrap64 (t208 + 1)), .int .i64 ((rd_T28 t203 0).f2), .int .i64 ((rd_T28 t203 0).f3), .int .i64 ((rd_T28 t203 0).f4)]) (ok := fun _ => True) (okp := fun _ => True) ?hr ?hp (fun _ hk => hk) trivial (Below.refl _ _) (Nat.le_refl _) (by simp) ?_; (case hd => rfl); (case hg => rfl); (case hr => first | (go_simp; done) | (go_simp; rfl)); (case hp => exact (Reps.c5 (show Kd.M k28 _ _ _ (⟨((rd_T28 t203 0).f0), wrap64 (t208 + 1), ((rd_T28 t203 0).f2), ((rd_T28 t203 0).f3), ((rd_T28 t203 0).f4)⟩ : S28) [.int .i64 ((rd_T28 t203 0).f0), .int .i64 (wrap64 (t208 + 1)), .int .i64 ((rd_T28 t203 0).f2), .int .i64 ((rd_T28 t203 0).f3), .int .i64 ((rd_T28 t203 0).f4)] from (k28_mkM _ _ _ (⟨((rd_T28 t203 0).f0), wrap64 (t208 + 1), ((rd_T28 t203 0).f2), ((rd_T28 t203 0).f3), ((rd_T28 t203 0).f4)⟩ : S28) )) (Reps.none _ _)))
                            intro v218 w57 ho58 hb hg_ hnew_
                            clear hg_ hnew_
                            (first | rw [← Ny217.out] at ho58 | (simp only [Int.reduceToNat] at ho58; rw [← Ny217.out] at ho58))
                            have n0_ := Aside0.mk (Kd.R_elder' (by (with_reducible repeat (first | apply Kd.R_alloc | apply Kd.R_drewN | apply Kd.R_drew)); exact HO_6.out) (Kd.R_base ho58) hb)
                            have n1_ := Aside0.mk (Kd.R_lower (Kd.R_newB (Kd.R_new' ho58 (Kd.R_lt (by (with_reducible repeat (first | apply Kd.R_alloc | apply Kd.R_drewN | apply Kd.R_drew)); exact HO_6.out))) (g := gb207) (o := .cells #[.int .i64 ((rd_T28 t203 0).f0), .int .i64 (wrap64 (t208 + 1)), .int .i64 ((rd_T28 t203 0).f2), .int .i64 ((rd_T28 t203 0).f3), .int .i64 ((rd_T28 t203 0).f4)] 28 (0, 0)) (by (with_reducible repeat (first | refine blk_drewN ?_ _ | refine blk_drew ?_ | refine blk_alloc ?_ _)); exact BK207.out)) (below_size (by repeat (first | (with_reducible first | exact HB.out | apply below_alloc | apply pw_below_drewN | apply below_drew1 | refine below_set ?_ GE192.out | refine below_set ?_ GE207.out) | exact HB.out))))
                            have n2_ := Aside0.mk (blk_below (g := gb192) (o := .cells #[.int .i64 a1_0, .int .i64 a1_1, .int .i64 a1_2] 31 (0, 0)) (by (with_reducible repeat (first | refine blk_drewN ?_ _ | refine blk_drew ?_ | refine blk_alloc ?_ _)); exact BK192.out) hb)
                            have n3_ := Aside0.mk (blk_below (g := gb207) (o := .cells #[.int .i64 ((rd_T28 t203 0).f0), .int .i64 (wrap64 (t208 + 1)), .int .i64 ((rd_T28 t203 0).f2), .int .i64 ((rd_T28 t203 0).f3), .int .i64 ((rd_T28 t203 0).f4)] 28 (0, 0)) (by (with_reducible repeat (first | refine blk_drewN ?_ _ | refine blk_drew ?_ | refine blk_alloc ?_ _)); exact BK207.out) hb)
                            have n4_ := Aside0.mk (below_step (by repeat (first | (with_reducible first | exact HB.out | apply below_alloc | apply pw_below_drewN | apply below_drew1 | refine below_set ?_ GE192.out | refine below_set ?_ GE207.out) | exact HB.out)) hb)
                            clear HO_6
                            clear BK192
                            clear BK207
                            clear HB
                            have HO_6 := n0_
                            have HO219 := n1_
                            have BK192 := n2_
                            have BK207 := n3_
                            have HB := n4_
                            clear n0_ n1_ n2_ n3_ n4_
                            clear hb ho58
                            refine hK.out _ _ ⟨(blk_cell BK207.out 0).trans rfl, (blk_cell BK207.out 1).trans rfl, (blk_cell BK207.out 2).trans rfl, (blk_cell BK207.out 3).trans rfl, (blk_cell BK207.out 4).trans rfl⟩ (fun hHeld => ?_)
                            clear hK K
                            refine norm_ (a' := ?_) ?_ ?_
                            rotate_left
                            · show Act.put _ (some 62) _ = _
                              simp only [Act.put, List.setIfInBounds_toArray, List.set_cons_zero, List.set_cons_succ, i64_w, i32_w]
                              rfl
                            refine one_ (i := 2) (N := some 58) #[true, true, true, true, false, true, true, false, false, false, false, false] rfl rfl (one_of HT_.out (by kernel_rfl)) (by decide) (fun K hK => ?_)
                            refine Kd.R_lit_step k28 _ 28 ?hg (N := 58) ?hd (xs := ([] : List (S28))) (inner := []) (ok := fun _ => True) (okp := fun _ => True) ?hr ?hp (fun _ hk => hk) trivial (Below.refl _ _) (Nat.le_refl _) (by simp) ?_; (case hd => rfl); (case hg => rfl); (case hr => first | (go_simp; done) | (go_simp; rfl)); (case hp => exact (Reps.none _ _))
                            intro v212 w59 ho60 hb hg_ hnew_
                            clear hg_ hnew_
                            (first | rw [← Ny211.out] at ho60 | (simp only [Int.reduceToNat] at ho60; rw [← Ny211.out] at ho60))
                            have n0_ := Aside0.mk (Kd.R_elder' (by (with_reducible repeat (first | apply Kd.R_alloc | apply Kd.R_drewN | apply Kd.R_drew)); exact HO_6.out) (Kd.R_base ho60) hb)
                            have n1_ := Aside0.mk (Kd.R_elder' (by (with_reducible repeat (first | apply Kd.R_alloc | apply Kd.R_drewN | apply Kd.R_drew)); exact HO219.out) (Kd.R_base ho60) hb)
                            have n2_ := Aside0.mk (Kd.R_lower (Kd.R_newB (Kd.R_new' (Kd.R_new' ho60 (Kd.R_lt (by (with_reducible repeat (first | apply Kd.R_alloc | apply Kd.R_drewN | apply Kd.R_drew)); exact HO_6.out))) (Kd.R_lt (by (with_reducible repeat (first | apply Kd.R_alloc | apply Kd.R_drewN | apply Kd.R_drew)); exact HO219.out))) (g := gb207) (o := .cells #[.int .i64 ((rd_T28 t203 0).f0), .int .i64 (wrap64 (t208 + 1)), .int .i64 ((rd_T28 t203 0).f2), .int .i64 ((rd_T28 t203 0).f3), .int .i64 ((rd_T28 t203 0).f4)] 28 (0, 0)) (by (with_reducible repeat (first | refine blk_drewN ?_ _ | refine blk_drew ?_ | refine blk_alloc ?_ _)); exact BK207.out)) (below_size (by repeat (first | (with_reducible first | exact HB.out | apply below_alloc | apply pw_below_drewN | apply below_drew1 | refine below_set ?_ GE192.out | refine below_set ?_ GE207.out) | exact HB.out))))
                            have n3_ := Aside0.mk (blk_below (g := gb192) (o := .cells #[.int .i64 a1_0, .int .i64 a1_1, .int .i64 a1_2] 31 (0, 0)) (by (with_reducible repeat (first | refine blk_drewN ?_ _ | refine blk_drew ?_ | refine blk_alloc ?_ _)); exact BK192.out) hb)
                            have n4_ := Aside0.mk (blk_below (g := gb207) (o := .cells #[.int .i64 ((rd_T28 t203 0).f0), .int .i64 (wrap64 (t208 + 1)), .int .i64 ((rd_T28 t203 0).f2), .int .i64 ((rd_T28 t203 0).f3), .int .i64 ((rd_T28 t203 0).f4)] 28 (0, 0)) (by (with_reducible repeat (first | refine blk_drewN ?_ _ | refine blk_drew ?_ | refine blk_alloc ?_ _)); exact BK207.out) hb)
                            have n5_ := Aside0.mk (below_step (by repeat (first | (with_reducible first | exact HB.out | apply below_alloc | apply pw_below_drewN | apply below_drew1 | refine below_set ?_ GE192.out | refine below_set ?_ GE207.out) | exact HB.out)) hb)
                            clear HO_6
                            clear HO219
                            clear BK192
                            clear BK207
                            clear HB
                            have HO_6 := n0_
                            have HO219 := n1_
                            have HO213 := n2_
                            have BK192 := n3_
                            have BK207 := n4_
                            have HB := n5_
                            clear n0_ n1_ n2_ n3_ n4_ n5_
                            clear hb ho60
                            refine hK.out _ _ ⟨(blk_cell BK207.out 0).trans rfl, (blk_cell BK207.out 1).trans rfl, (blk_cell BK207.out 2).trans rfl, (blk_cell BK207.out 3).trans rfl, (blk_cell BK207.out 4).trans rfl⟩ (fun hHeld => ?_)
                            clear hK K
                            refine norm_ (a' := ?_) ?_ ?_
                            rotate_left
                            · show Act.put _ (some 58) _ = _
                              simp only [Act.put, List.setIfInBounds_toArray, List.set_cons_zero, List.set_cons_succ, i64_w, i32_w]
                              rfl
                            refine one_ (i := 4) (N := some 60) #[true, true, true, true, true, true, true, false, false, false, false, false] rfl rfl (one_of HT_.out (by kernel_rfl)) (by decide) (fun K hK => ?_)
                            refine Kd.R_append_rows_step k28 (w0 := w) w.heap.size (by rfl) (.tmp 58) (.tmp 59) 24 28 (.agg #[(.int .i64 0), (.int .i64 0), (.int .i64 0), (.int .i64 0), (.int .i64 0)]) 40 rfl Try.underlying24 info28 rfl (by decide) (by omega) v212 y211 x6_4 _ _ _ (fun k_ => some k_ ≠ (.slice Ao26 x6_4.length co26 : Value).ownBlock ∧ some k_ ≠ (v218 : Value).ownBlock ∧ k_ ≠ gb207) (fun _ => False) rfl rfl ?aO ?aR (fun _ _ h => h) (fun _ h => h.elim) ?aF ?aB ?aS ?aL ?_
                            (case aR => repeat (first | exact (Kd.R_reads' HO_6.out).2.2 | (with_reducible refine Kd.C_alloc ?_ _) | (with_reducible refine Kd.C_drewN ?_ _) | (with_reducible refine Kd.C_drew ?_)))
                            (case aB => exact (by repeat (first | (with_reducible first | exact HB.out | apply below_alloc | apply pw_below_drewN | apply below_drew1 | refine below_set ?_ GE192.out | refine below_set ?_ GE207.out) | exact HB.out)))
                            (case aF => exact (fun k_ hk => ⟨Kd.fresh' (Kd.R_lt (by (with_reducible repeat (first | apply Kd.R_alloc | apply Kd.R_drewN | apply Kd.R_drew)); exact HO_6.out)) k_ hk, Kd.fresh' (Kd.R_lt (by (with_reducible repeat (first | apply Kd.R_alloc | apply Kd.R_drewN | apply Kd.R_drew)); exact HO219.out)) k_ hk, Kd.freshB (g := gb207) (o := .cells #[.int .i64 ((rd_T28 t203 0).f0), .int .i64 (wrap64 (t208 + 1)), .int .i64 ((rd_T28 t203 0).f2), .int .i64 ((rd_T28 t203 0).f3), .int .i64 ((rd_T28 t203 0).f4)] 28 (0, 0)) (by (with_reducible repeat (first | refine blk_drewN ?_ _ | refine blk_drew ?_ | refine blk_alloc ?_ _)); exact BK207.out) k_ hk⟩))
                            (case aO => exact (by (with_reducible repeat (first | apply Kd.R_alloc | apply Kd.R_drewN | apply Kd.R_drew)); exact Kd.R_mono HO213.out (fun _ hk => ⟨hk.1.1.2, ⟨hk.1.2, hk.2⟩⟩)))
                            (case aS => exact (below_size (by repeat (first | (with_reducible first | exact HB.out | apply below_alloc | apply pw_below_drewN | apply below_drew1 | refine below_set ?_ GE192.out | refine below_set ?_ GE207.out) | exact HB.out))))
                            (case aL => have := LMc49.out; omega)
                            intro v215 w61 ho hb hg hat
                            rw [← Ny214.out] at ho
                            have n0_ := Aside0.mk (Kd.R_after (ok := (fun k_ => some k_ ≠ (v218 : Value).ownBlock ∧ k_ ≠ gb207)) (by (with_reducible repeat (first | apply Kd.R_alloc | apply Kd.R_drewN | apply Kd.R_drew)); exact Kd.R_mono HO_6.out (fun _ hk => ⟨⟨hk.1.2, hk.1.1⟩, hk.2⟩)) hg hat)
                            have n1_ := Aside0.mk (blk_grown (g := gb192) (o := .cells #[.int .i64 a1_0, .int .i64 a1_1, .int .i64 a1_2] 31 (0, 0)) (by (with_reducible repeat (first | refine blk_drewN ?_ _ | refine blk_drew ?_ | refine blk_alloc ?_ _)); exact BK192.out) hg (Kd.R_ne HO213.out BK192.out (by decide)))
                            have n2_ := Aside0.mk (blk_grown (g := gb207) (o := .cells #[.int .i64 ((rd_T28 t203 0).f0), .int .i64 (wrap64 (t208 + 1)), .int .i64 ((rd_T28 t203 0).f2), .int .i64 ((rd_T28 t203 0).f3), .int .i64 ((rd_T28 t203 0).f4)] 28 (0, 0)) (by (with_reducible repeat (first | refine blk_drewN ?_ _ | refine blk_drew ?_ | refine blk_alloc ?_ _)); exact BK207.out) hg (Kd.R_away HO213.out (fun _ hk => hk.2)))
                            have n3_ := Aside0.mk (Kd.R_after (ok := (fun k_ => some k_ ≠ (.slice Ao26 x6_4.length co26 : Value).ownBlock ∧ k_ ≠ gb207)) (by (with_reducible repeat (first | apply Kd.R_alloc | apply Kd.R_drewN | apply Kd.R_drew)); exact Kd.R_mono HO219.out (fun _ hk => ⟨⟨hk.1.1.2, hk.1.2⟩, hk.2⟩)) hg hat)
                            have n4_ := Aside0.mk (hb)
                            have n5_ := Aside0.mk (ho)
                            clear HO_6
                            clear BK192
                            clear BK207
                            clear HO219
                            clear HB
                            clear HO213
                            have HO_6 := n0_
                            have BK192 := n1_
                            have BK207 := n2_
                            have HO219 := n3_
                            have HB := n4_
                            have HO216 := n5_
                            clear n0_ n1_ n2_ n3_ n4_ n5_
                            clear ho hb hg hat
                            refine hK.out _ _ ⟨(blk_cell BK207.out 0).trans rfl, (blk_cell BK207.out 1).trans rfl, (blk_cell BK207.out 2).trans rfl, (blk_cell BK207.out 3).trans rfl, (blk_cell BK207.out 4).trans rfl⟩ (fun hHeld => ?_)
                            clear hK K
                            refine norm_ (a' := ?_) ?_ ?_
                            rotate_left
                            · show Act.put _ (some 60) _ = _
                              simp only [Act.put, List.setIfInBounds_toArray, List.set_cons_zero, List.set_cons_succ, i64_w, i32_w]
                              rfl
                            exact norm_ (by simp only [putAll, Act.put, List.setIfInBounds_toArray, List.set_cons_zero, List.set_cons_succ]) (hCont (v212, v215, v218) _ ⟨hHeld, (by (with_reducible repeat (first | apply Kd.R_alloc | apply Kd.R_drewN | apply Kd.R_drew)); exact Kd.R_mono HO216.out (fun _ hk => ⟨hk.2.1, ⟨hk.1, hk.2.2⟩⟩)), (by (with_reducible repeat (first | apply Kd.R_alloc | apply Kd.R_drewN | apply Kd.R_drew)); exact Kd.R_mono HO219.out (fun _ hk => ⟨hk.2, ⟨hk.1.1, hk.1.2⟩⟩)), (by (with_reducible repeat (first | apply Kd.R_alloc | apply Kd.R_drewN | apply Kd.R_drew)); exact Kd.R_mono HO_6.out (fun _ hk => ⟨hk.2, ⟨hk.1.1, hk.1.2⟩⟩)), (by (with_reducible repeat (first | refine blk_drewN ?_ _ | refine blk_drew ?_ | refine blk_alloc ?_ _)); exact BK192.out), (by (with_reducible repeat (first | refine blk_drewN ?_ _ | refine blk_drew ?_ | refine blk_alloc ?_ _)); exact BK207.out), (by repeat (first | (with_reducible first | exact HB.out | apply below_alloc | apply pw_below_drewN | apply below_drew1 | refine below_set ?_ GE192.out | refine below_set ?_ GE207.out) | exact HB.out))⟩)
                        rintro ⟨v212, v215, v218⟩ w62 ⟨hS_, h0_, h1_, h2_, h3_, h4_, h5_⟩
                        have n0_ : Aside0 (Kd.R k28 28 w62 w.heap.size (fun k_ => some k_ ≠ (v218 : Value).ownBlock ∧ some k_ ≠ (.slice Ao26 x6_4.length co26 : Value).ownBlock ∧ k_ ≠ gb207) v215 y214) := ⟨h0_⟩
                        have n1_ : Aside0 (Kd.R k28 28 w62 w.heap.size (fun k_ => some k_ ≠ (v215 : Value).ownBlock ∧ some k_ ≠ (.slice Ao26 x6_4.length co26 : Value).ownBlock ∧ k_ ≠ gb207) v218 y217) := ⟨h1_⟩
                        have n2_ : Aside0 (Kd.R k28 28 w62 w.heap.size (fun k_ => some k_ ≠ (v215 : Value).ownBlock ∧ some k_ ≠ (v218 : Value).ownBlock ∧ k_ ≠ gb207) (.slice Ao26 x6_4.length co26) x6_4) := ⟨h2_⟩
                        have n3_ : Aside0 (w62.heap[gb192]? = some (.cells #[.int .i64 a1_0, .int .i64 a1_1, .int .i64 a1_2] 31 (0, 0))) := ⟨h3_⟩
                        have n4_ : Aside0 (w62.heap[gb207]? = some (.cells #[.int .i64 ((rd_T28 t203 0).f0), .int .i64 (wrap64 (t208 + 1)), .int .i64 ((rd_T28 t203 0).f2), .int .i64 ((rd_T28 t203 0).f3), .int .i64 ((rd_T28 t203 0).f4)] 28 (0, 0))) := ⟨h4_⟩
                        have n5_ : Aside0 (Below w.heap.size w w62) := ⟨h5_⟩
                        clear HO_6
                        clear BK192
                        clear BK207
                        clear HB
                        clear h0_ h1_ h2_ h3_ h4_ h5_
                        have HO216 := n0_
                        have HO219 := n1_
                        have HO_6 := n2_
                        have BK192 := n3_
                        have BK207 := n4_
                        have HB := n5_
                        clear n0_ n1_ n2_ n3_ n4_ n5_
                        have hHeld : w62.cell? ⟨gb207, 0, none⟩ = some (.int .i64 ((rd_T28 t203 0).f0)) ∧ w62.cell? ⟨gb207, 1, none⟩ = some (.int .i64 (wrap64 (t208 + 1))) ∧ w62.cell? ⟨gb207, 2, none⟩ = some (.int .i64 ((rd_T28 t203 0).f2)) ∧ w62.cell? ⟨gb207, 3, none⟩ = some (.int .i64 ((rd_T28 t203 0).f3)) ∧ w62.cell? ⟨gb207, 4, none⟩ = some (.int .i64 ((rd_T28 t203 0).f4)) := hS_
                        obtain ⟨Ao64, co64, eo64⟩ := Kd.R_slice HO219.out
                        (first | subst eo64 | (injection eo64 with f1_ f2_ f3_; have f4_ := f1_.symm; have f5_ := f3_.symm; clear f1_ f2_ f3_; subst f4_; subst f5_))
                        refine norm_ (a' := ?_) ?_ ?_
                        rotate_left
                        · simp only [putAll, Act.put, List.setIfInBounds_toArray, List.set_cons_zero, List.set_cons_succ]
                          rfl
                        refine one_ (i := 7) (N := some 63) #[true, true, true, true, true, true, true, true, false, false, false, false] rfl rfl (one_of HT_.out (by kernel_rfl)) (by decide) (fun K hK => ?_)
                        refine Kd.R_append_rows_step k28 (w0 := w) w.heap.size (by rfl) (.tmp 60) (.tmp 62) 24 28 (.agg #[(.int .i64 0), (.int .i64 0), (.int .i64 0), (.int .i64 0), (.int .i64 0)]) 40 rfl Try.underlying24 info28 rfl (by decide) (by omega) v215 y214 y217 _ _ _ (fun k_ => some k_ ≠ (.slice Ao26 x6_4.length co26 : Value).ownBlock ∧ some k_ ≠ (.slice Ao64 y217.length co64 : Value).ownBlock ∧ k_ ≠ gb207) (fun _ => False) rfl rfl ?aO ?aR (fun _ _ h => h) (fun _ h => h.elim) ?aF ?aB ?aS ?aL ?_
                        (case aR => repeat (first | exact (Kd.R_reads' HO219.out).2.2 | (with_reducible refine Kd.C_alloc ?_ _) | (with_reducible refine Kd.C_drewN ?_ _) | (with_reducible refine Kd.C_drew ?_)))
                        (case aB => exact (by repeat (first | (with_reducible first | exact HB.out | apply below_alloc | apply pw_below_drewN | apply below_drew1 | refine below_set ?_ GE192.out | refine below_set ?_ GE207.out) | exact HB.out)))
                        (case aF => exact (fun k_ hk => ⟨Kd.fresh' (Kd.R_lt (by (with_reducible repeat (first | apply Kd.R_alloc | apply Kd.R_drewN | apply Kd.R_drew)); exact HO_6.out)) k_ hk, Kd.fresh' (Kd.R_lt (by (with_reducible repeat (first | apply Kd.R_alloc | apply Kd.R_drewN | apply Kd.R_drew)); exact HO219.out)) k_ hk, Kd.freshB (g := gb207) (o := .cells #[.int .i64 ((rd_T28 t203 0).f0), .int .i64 (wrap64 (t208 + 1)), .int .i64 ((rd_T28 t203 0).f2), .int .i64 ((rd_T28 t203 0).f3), .int .i64 ((rd_T28 t203 0).f4)] 28 (0, 0)) (by (with_reducible repeat (first | refine blk_drewN ?_ _ | refine blk_drew ?_ | refine blk_alloc ?_ _)); exact BK207.out) k_ hk⟩))
                        (case aO => exact (by (with_reducible repeat (first | apply Kd.R_alloc | apply Kd.R_drewN | apply Kd.R_drew)); exact Kd.R_mono HO216.out (fun _ hk => ⟨hk.2.1, ⟨hk.1, hk.2.2⟩⟩)))
                        (case aS => exact (below_size (by repeat (first | (with_reducible first | exact HB.out | apply below_alloc | apply pw_below_drewN | apply below_drew1 | refine below_set ?_ GE192.out | refine below_set ?_ GE207.out) | exact HB.out))))
                        (case aL => have := LMc50.out; omega)
                        intro v221 w63 ho hb hg hat
                        rw [← Ny220.out] at ho
                        have n0_ := Aside0.mk (Kd.R_after (ok := (fun k_ => some k_ ≠ (.slice Ao64 y217.length co64 : Value).ownBlock ∧ k_ ≠ gb207)) (by (with_reducible repeat (first | apply Kd.R_alloc | apply Kd.R_drewN | apply Kd.R_drew)); exact Kd.R_mono HO_6.out (fun _ hk => ⟨⟨hk.2.1, hk.2.2⟩, hk.1⟩)) hg hat)
                        have n1_ := Aside0.mk (blk_grown (g := gb192) (o := .cells #[.int .i64 a1_0, .int .i64 a1_1, .int .i64 a1_2] 31 (0, 0)) (by (with_reducible repeat (first | refine blk_drewN ?_ _ | refine blk_drew ?_ | refine blk_alloc ?_ _)); exact BK192.out) hg (Kd.R_ne HO216.out BK192.out (by decide)))
                        have n2_ := Aside0.mk (blk_grown (g := gb207) (o := .cells #[.int .i64 ((rd_T28 t203 0).f0), .int .i64 (wrap64 (t208 + 1)), .int .i64 ((rd_T28 t203 0).f2), .int .i64 ((rd_T28 t203 0).f3), .int .i64 ((rd_T28 t203 0).f4)] 28 (0, 0)) (by (with_reducible repeat (first | refine blk_drewN ?_ _ | refine blk_drew ?_ | refine blk_alloc ?_ _)); exact BK207.out) hg (Kd.R_away HO216.out (fun _ hk => hk.2.2)))
                        have n3_ := Aside0.mk (Kd.R_after (ok := (fun k_ => some k_ ≠ (.slice Ao26 x6_4.length co26 : Value).ownBlock ∧ k_ ≠ gb207)) (by (with_reducible repeat (first | apply Kd.R_alloc | apply Kd.R_drewN | apply Kd.R_drew)); exact Kd.R_mono HO219.out (fun _ hk => ⟨⟨hk.2.1, hk.2.2⟩, hk.1⟩)) hg hat)
                        have n4_ := Aside0.mk (hb)
                        have n5_ := Aside0.mk (ho)
                        clear HO_6
                        clear BK192
                        clear BK207
                        clear HO219
                        clear HB
                        clear HO216
                        have HO_6 := n0_
                        have BK192 := n1_
                        have BK207 := n2_
                        have HO219 := n3_
                        have HB := n4_
                        have HO222 := n5_
                        clear n0_ n1_ n2_ n3_ n4_ n5_
                        clear ho hb hg hat
                        obtain ⟨Ao65, co65, eo65⟩ := Kd.R_slice HO222.out
                        (first | subst eo65 | (injection eo65 with f1_ f2_ f3_; have f4_ := f1_.symm; have f5_ := f3_.symm; clear f1_ f2_ f3_; subst f4_; subst f5_))
                        refine hK.out _ _ ⟨(blk_cell BK207.out 0).trans rfl, (blk_cell BK207.out 1).trans rfl, (blk_cell BK207.out 2).trans rfl, (blk_cell BK207.out 3).trans rfl, (blk_cell BK207.out 4).trans rfl⟩ (fun hHeld => ?_)
                        clear hK K
                        refine norm_ (a' := ?_) ?_ ?_
                        rotate_left
                        · show Act.put _ (some 63) _ = _
                          simp only [Act.put, List.setIfInBounds_toArray, List.set_cons_zero, List.set_cons_succ, i64_w, i32_w]
                          rfl
                        refine one_ (i := 8) (N := some 64) #[true, true, true, true, true, true, true, true, true, false, false, false] rfl rfl (one_of HT_.out (by kernel_rfl)) (by decide) (fun K hK => ?_)
                        refine goes_ Try.func37 (by kernel_rfl) rfl #[.slice Ao65 y220.length co65] (by rfl) rfl rfl (by (try simp only [List.map_toArray, List.map_cons, List.map_nil]); first | done | rfl | (simp only [List.length_drop, List.length_take]; rfl)) ?_
                        with_reducible refine (horariumref12_Test.calls kj15 _ _ y220 t223 _ ?side1 ?side2 A51.out).mono ?_
                        (case side1 => repeat (first | exact (Kd.R_reads' HO222.out).2.2 | (with_reducible refine Kd.C_alloc ?_ _) | (with_reducible refine Kd.C_drewN ?_ _) | (with_reducible refine Kd.C_drew ?_)))
                        (case side2 => exact (Kd.R_reads' HO222.out).2.1)
                        rintro e w66 ⟨rfl, hb⟩
                        refine ⟨_, rfl, ?_⟩
                        have n0_ := Aside0.mk (Kd.R_below (by (with_reducible repeat (first | apply Kd.R_alloc | apply Kd.R_drewN | apply Kd.R_drew)); exact HO_6.out) hb)
                        have n1_ := Aside0.mk (Kd.R_below (by (with_reducible repeat (first | apply Kd.R_alloc | apply Kd.R_drewN | apply Kd.R_drew)); exact HO219.out) hb)
                        have n2_ := Aside0.mk (Kd.R_below (by (with_reducible repeat (first | apply Kd.R_alloc | apply Kd.R_drewN | apply Kd.R_drew)); exact HO222.out) hb)
                        have n3_ := Aside0.mk (blk_below (g := gb192) (o := .cells #[.int .i64 a1_0, .int .i64 a1_1, .int .i64 a1_2] 31 (0, 0)) (by (with_reducible repeat (first | refine blk_drewN ?_ _ | refine blk_drew ?_ | refine blk_alloc ?_ _)); exact BK192.out) hb)
                        have n4_ := Aside0.mk (blk_below (g := gb207) (o := .cells #[.int .i64 ((rd_T28 t203 0).f0), .int .i64 (wrap64 (t208 + 1)), .int .i64 ((rd_T28 t203 0).f2), .int .i64 ((rd_T28 t203 0).f3), .int .i64 ((rd_T28 t203 0).f4)] 28 (0, 0)) (by (with_reducible repeat (first | refine blk_drewN ?_ _ | refine blk_drew ?_ | refine blk_alloc ?_ _)); exact BK207.out) hb)
                        have n5_ := Aside0.mk (below_step (by repeat (first | (with_reducible first | exact HB.out | apply below_alloc | apply pw_below_drewN | apply below_drew1 | refine below_set ?_ GE192.out | refine below_set ?_ GE207.out) | exact HB.out)) hb)
                        clear HO_6
                        clear HO219
                        clear HO222
                        clear BK192
                        clear BK207
                        clear HB
                        have HO_6 := n0_
                        have HO219 := n1_
                        have HO222 := n2_
                        have BK192 := n3_
                        have BK207 := n4_
                        have HB := n5_
                        clear n0_ n1_ n2_ n3_ n4_ n5_
                        (try clear hb)
                        (try clear hb2)
                        (try clear hk)
                        (try clear hi)
                        refine hK.out _ _ ⟨(blk_cell BK207.out 0).trans rfl, (blk_cell BK207.out 1).trans rfl, (blk_cell BK207.out 2).trans rfl, (blk_cell BK207.out 3).trans rfl, (blk_cell BK207.out 4).trans rfl⟩ (fun hHeld => ?_)
                        clear hK K
                        refine norm_ (a' := ?_) ?_ ?_
                        rotate_left
                        · show Act.put _ (some 64) _ = _
                          simp only [Act.put, List.setIfInBounds_toArray, List.set_cons_zero, List.set_cons_succ, i64_w, i32_w]
                          rfl
                        refine pure_ (i := 9) (N := some 65) (v := ?_) (a' := ?_) #[true, true, true, true, true, true, true, true, true, true, false, false] rfl rfl (any_of HT_.out (by kernel_rfl)) (fun _ _ _ h => h) (Or.inl ⟨by rfl, ?_⟩) ?_ ?_
                        rotate_left
                        · intro w'
                          go_simp
                          with_reducible rfl
                        rotate_left
                        · simp only [Act.put, List.setIfInBounds_toArray, List.set_cons_zero, List.set_cons_succ, i64_w, i32_w]
                          rfl
                        refine pure_ (i := 10) (N := some 66) (v := ?_) (a' := ?_) #[true, true, true, true, true, true, true, true, true, true, true, false] rfl rfl (any_of HT_.out (by kernel_rfl)) (fun _ _ _ h => h) (Or.inl ⟨by rfl, ?_⟩) ?_ ?_
                        rotate_left
                        · intro w'
                          go_simp
                          with_reducible rfl
                        rotate_left
                        · simp only [Act.put, List.setIfInBounds_toArray, List.set_cons_zero, List.set_cons_succ, i64_w, i32_w]
                          rfl
                        refine pure_ (i := 11) (N := some 4) (v := ?_) (a' := ?_) #[true, true, true, true, true, true, true, true, true, true, true, true] rfl rfl (any_of HT_.out (by kernel_rfl)) (fun _ _ _ h => h) (Or.inl ⟨by rfl, ?_⟩) ?_ ?_
                        rotate_left
                        · intro w'
                          go_simp
                          with_reducible rfl
                        rotate_left
                        · simp only [Act.put, List.setIfInBounds_toArray, List.set_cons_zero, List.set_cons_succ, i64_w, i32_w]
                          rfl
                        refine done_ (done_of HT_.out (by kernel_rfl)) ?_
                        try go_wp2
                        go_ret
                        exact ⟨by first | rfl | (simp [errW_none, errW_some] <;> rfl) | (simp [*, errW_none, errW_some] <;> rfl), by repeat (first | (with_reducible first | exact HB.out | apply below_alloc | apply pw_below_drewN | apply below_drew1 | refine below_set ?_ GE192.out | refine below_set ?_ GE207.out) | exact HB.out)⟩
                      · rw [if_neg c50] at H
                        exact absurd H (by simp)
                    · rw [if_neg c49] at H
                      exact absurd H (by simp)
                  · replace c48 := Bool.eq_false_iff.mpr c48
                    subst c48
                    have H1 : (some false) = some r := by rw [if_neg (show ¬ (false = true) by decide)] at H; exact H
                    clear H
                    have H := H1
                    clear H1
                    exact absurd ((Option.some.inj H).trans HRT.out) (by decide)
              · rw [if_neg c43] at H
                have c43b0 : (t210 == 0) = false := beq_eq_false_iff_ne.mpr c43
                have c43b1 : (t210 != 0) = true := bne_iff_ne.mpr c43
                by_cases c72 : t193 = true
                · subst c72
                  have H1 : (some (t208 == 0)) = some r := by rw [if_pos rfl] at H; exact H
                  clear H
                  have H := H1
                  clear H1
                  obtain rfl := Option.some.inj H
                  go_wp2_with (first | ((with_reducible refine gate_callee (f := 37) rfl ?_); refine goesL_ (some 41) rfl rfl Try.func37 (by kernel_rfl) rfl #[.slice Ao26 x6_4.length co26] rfl (by (try simp only [List.map_toArray, List.map_cons, List.map_nil]); first | done | rfl | (simp only [List.length_drop, List.length_take]; rfl)) ?_; (with_reducible refine (horariumref12_Test.calls kj15 _ _ x6_4 t210 _ ?side1 ?side2 A42.out).mono ?_); (case side1 => repeat (first | exact (Kd.R_reads' HO_6.out).2.2 | (with_reducible refine Kd.C_alloc ?_ _) | (with_reducible refine Kd.C_drewN ?_ _) | (with_reducible refine Kd.C_drew ?_))); (case side2 => exact (Kd.R_reads' HO_6.out).2.1); rintro e w73 ⟨rfl, hb⟩; refine ⟨_, rfl, ?_⟩; have n0_ := Aside0.mk (Kd.R_below (by (with_reducible repeat (first | apply Kd.R_alloc | apply Kd.R_drewN | apply Kd.R_drew)); exact HO_6.out) hb); have n1_ := Aside0.mk (blk_below (g := gb192) (o := .cells #[.int .i64 a1_0, .int .i64 a1_1, .int .i64 a1_2] 31 (0, 0)) (by (with_reducible repeat (first | refine blk_drewN ?_ _ | refine blk_drew ?_ | refine blk_alloc ?_ _)); exact BK192.out) hb); have n2_ := Aside0.mk (blk_below (g := gb207) (o := .cells #[.int .i64 ((rd_T28 t203 0).f0), .int .i64 ((rd_T28 t203 0).f1), .int .i64 ((rd_T28 t203 0).f2), .int .i64 ((rd_T28 t203 0).f3), .int .i64 ((rd_T28 t203 0).f4)] 28 (0, 0)) (by (with_reducible repeat (first | refine blk_drewN ?_ _ | refine blk_drew ?_ | refine blk_alloc ?_ _)); exact BK207.out) hb); have n3_ := Aside0.mk (below_step (by repeat (first | (with_reducible first | exact HB.out | apply below_alloc | apply pw_below_drewN | apply below_drew1 | refine below_set ?_ GE192.out | refine below_set ?_ GE207.out) | exact HB.out)) hb); clear HO_6; clear BK192; clear BK207; clear HB; have HO_6 := n0_; have BK192 := n1_; have BK207 := n2_; have HB := n3_; clear n0_ n1_ n2_ n3_; (try clear hb); (try clear hb2); (try clear hk); (try clear hi)))
                  go_ret
                  exact ⟨by first | rfl | (simp [errW_none, errW_some] <;> rfl) | (simp [*, errW_none, errW_some] <;> rfl), by repeat (first | (with_reducible first | exact HB.out | apply below_alloc | apply pw_below_drewN | apply below_drew1 | refine below_set ?_ GE192.out | refine below_set ?_ GE207.out) | exact HB.out)⟩
                · replace c72 := Bool.eq_false_iff.mpr c72
                  subst c72
                  have H1 : (some false) = some r := by rw [if_neg (show ¬ (false = true) by decide)] at H; exact H
                  clear H
                  have H := H1
                  clear H1
                  exact absurd ((Option.some.inj H).trans HRT.out) (by decide)
      · rw [if_neg c14] at H
        exact absurd H (by simp)

end Go.Proofs.Ythiepacmdlgajaa.PQpaRoom
