-- Made by px.py (a program of this session, over the kit's printer) out of the translation. Not trusted: Lean checks it.
import Derived.Test.YtmgmpifbhjoijaaPProbeReportsx0
import Derived.Test.YtmgmpifbhjoijaaPProbeReportsx1
import Derived.Test.YtmgmpifbhjoijaaPProbeReportsx5
import Derived.Test.YtmgmpifbhjoijaaPProbeReportsx6
namespace Go.Proofs.Ytmgmpifbhjoijaa.PProbeReports
open Go.RowKit Go.Proofs.YtmgmpifbhjoijaaW.PrintWords Go.Proofs.YtmgmpifbhjoijaaW.PrintLast Go.Proofs.YtmgmpifbhjoijaaW.PrintMore
attribute [local go_sem] max2_int min2_int max_two min_two max_three min_three max_four min_four   -- for this text's walks alone
set_option linter.unusedVariables false
set_option linter.unusedSimpArgs false

attribute [local go_sem high] eqA87
/-! ### r26_Same: function 29 -/
def r26_Same.l0 : Nat → List (S87) → List (S87) → Int → Option (Bool)
 | 0, _, _, _ => none
 | k + 1, x0, x1, x5 => if x5 < (x0.length : Int) then (if 0 ≤ x5 then (if x5 < (x1.length : Int) then (if (!(((rd_T87 x0 x5).f0) == ((rd_T87 x1 x5).f0)) || (!(((rd_T87 x0 x5).f1) == ((rd_T87 x1 x5).f1)) || (!(((rd_T87 x0 x5).f2) == ((rd_T87 x1 x5).f2))))) = true then (some false) else (r26_Same.l0 k x0 x1 (wrap64 (x5 + 1)))) else (none)) else (none)) else (some true)
def r26_Same.f (k : Nat) (l0 : List (S87)) (l1 : List (S87)) : Option (Bool) := if (l0.length : Int) = (l1.length : Int) then (r26_Same.l0 k l0 l1 0) else (some false)
theorem r26_Same.mono_l : ∀ k, (∀ y0 y1 y2, LeO (r26_Same.l0 k y0 y1 y2) (r26_Same.l0 (k + 1) y0 y1 y2))
 | 0 => fun _ _ _ r h => by simp [r26_Same.l0] at h
 | k + 1 => by
  have ih0 := r26_Same.mono_l k
  ·intro y0 y1 y2
   unfold r26_Same.l0
   repeat' first
   | (with_reducible exact ih0 _ _ _)
   | (with_reducible exact LeO.refl _)
   | (with_reducible exact LeO.none _)
   | (with_reducible refine LeO.ite ?_ ?_)
   | (with_reducible refine LeO.bind ?_ (fun _ => ?_))
   | exact ih0 _ _ _
   | exact LeO.none _
   | refine LeO.ite ?_ ?_
   | refine LeO.bind ?_ (fun _ => ?_)
theorem r26_Same.mono : ∀ a0 a1 k, LeO (r26_Same.f k a0 a1) (r26_Same.f (k + 1) a0 a1) := by
 intro a0 a1 k
 have ih0 := r26_Same.mono_l k
 unfold r26_Same.f
 repeat' first
   | (with_reducible exact ih0 _ _ _)
   | (with_reducible exact LeO.refl _)
   | (with_reducible exact LeO.none _)
   | (with_reducible refine LeO.ite ?_ ?_)
   | (with_reducible refine LeO.bind ?_ (fun _ => ?_))
   | exact ih0 _ _ _
   | exact LeO.none _
   | refine LeO.ite ?_ ?_
   | refine LeO.bind ?_ (fun _ => ?_)
set_option maxHeartbeats 8000000 in
set_option maxRecDepth 100000 in
theorem r26_Same.calls (k : Nat) (A0 : Option Addr) (c0 : Nat) (l0 : List (S87)) (A1 : Option Addr) (c1 : Nat) (l1 : List (S87)) (r : Bool) (w : World) (hr0 : Kd.C k87 w A0 l0.length l0) (hc0 : l0.length ≤ c0) (hr1 : Kd.C k87 w A1 l1.length l1) (hc1 : l1.length ≤ c1) (h : r26_Same.f k l0 l1 = some r) :
  Calls Try.prog 29 #[.slice A0 l0.length c0, .slice A1 l1.length c1] w fun e w' => e = .returned (.bool r) ∧ Drawn0 w w' := by
 have hu87 := Try.underlying87
 have HR0 := Aside0.mk hr0
 have HC0 := Aside0.mk hc0
 clear hr0 hc0
 have HR1 := Aside0.mk hr1
 have HC1 := Aside0.mk hc1
 clear hr1 hc1
 have H : (if (l0.length : Int) = (l1.length : Int) then (r26_Same.l0 k l0 l1 0) else (some false)) = some r := h
 clear h
 by_cases c3 : (l0.length : Int) = (l1.length : Int)
 ·rw [if_pos c3] at H
  have c3b0 : ((l0.length : Int) == (l1.length : Int)) = true := beq_iff_eq.mpr c3
  have c3b1 : ((l0.length : Int) != (l1.length : Int)) = false := bne_eq_false_iff_eq.mpr c3
  have c3b2 : (l0.length == l1.length) = true := by first | simpa using c3 | (simp at c3 ⊢; omega)
  clear c3
  have H' := Aside0.mk H
  clear H
  go_enter Try.func29, Try.ntmps29
  go_wp2
  repeat (go_quiet (fail); try go_wp2)
  go_loopg [5] k (fun kq v5 w' => ∃ (x5_1 : Int), v5 = .int .i64 x5_1 ∧ Aside0 (r26_Same.l0 kq l0 l1 x5_1 = some r) ∧ Aside0 (kq ≤ k) ∧ Drawn0 w w')
  case atStart => exact ⟨(0), (by first | rfl | (simp; done) | (simp [*]; done)), H', ⟨Nat.le_refl _⟩, by repeat (first | exact Drawn0.refl _ | apply Drawn0.step)⟩
  case round =>
   clear H'
   try clear c1
   try clear c2
   try clear p2
   try clear c3
   try clear c3b0
   try clear c3b1
   try clear c3b2
   obtain ⟨x5_1, rfl, HA, HK1, ⟨m1, rfl⟩⟩ := hrel
   cases gk with
   | zero => exact absurd HA.out (by simp [r26_Same.l0])
   | succ k1 =>
    have H := HA.out
    clear HA
    simp only [r26_Same.l0] at H
    by_cases c4 : x5_1 < (l0.length : Int)
    ·rw [if_pos c4] at H
     have c4b0 : decide (x5_1 < (l0.length : Int)) = true := decide_eq_true c4
     clear c4
     by_cases c5 : 0 ≤ x5_1
     ·rw [if_pos c5] at H
      have c5b0 : decide (0 ≤ x5_1) = true := decide_eq_true c5
      clear c5
      by_cases c6 : x5_1 < (l1.length : Int)
      ·rw [if_pos c6] at H
       have c6b0 : decide (x5_1 < (l1.length : Int)) = true := decide_eq_true c6
       clear c6
       by_cases c7 : (!(((rd_T87 l0 x5_1).f0) == ((rd_T87 l1 x5_1).f0)) || (!(((rd_T87 l0 x5_1).f1) == ((rd_T87 l1 x5_1).f1)) || (!(((rd_T87 l0 x5_1).f2) == ((rd_T87 l1 x5_1).f2))))) = true
       ·rw [if_pos c7] at H
        have c7b0 : (!(((rd_T87 l0 x5_1).f0) == ((rd_T87 l1 x5_1).f0)) || (!(((rd_T87 l0 x5_1).f1) == ((rd_T87 l1 x5_1).f1)) || (!(((rd_T87 l0 x5_1).f2) == ((rd_T87 l1 x5_1).f2))))) = true := c7
        clear c7
        obtain rfl := Option.some.inj H
        have p201 : 0 ≤ (x5_1 : Int) := of_decide_eq_true (by first | (with_reducible assumption) | assumption)
        have q201 : x5_1 < (l0.length : Int) := of_decide_eq_true (by first | (with_reducible assumption) | assumption)
        obtain ⟨ad201, e201, hx201_0, hx201_1, hx201_2⟩ := at_T87 HR0.out x5_1 p201 q201
        cases e201
        replace p201 := eq_true p201
        replace q201 := eq_true q201
        have p202 : 0 ≤ (x5_1 : Int) := of_decide_eq_true (by first | (with_reducible assumption) | assumption)
        have q202 : x5_1 < (l1.length : Int) := of_decide_eq_true (by first | (with_reducible assumption) | assumption)
        obtain ⟨ad202, e202, hx202_0, hx202_1, hx202_2⟩ := at_T87 HR1.out x5_1 p202 q202
        cases e202
        replace p202 := eq_true p202
        replace q202 := eq_true q202
        go_wp2
        repeat (go_quiet (fail); try go_wp2)
        go_ret
        exact ⟨by first | rfl | (simp; done) | (simp only [i64_w]; done) | (simp [*]; done), by repeat (first | exact Drawn0.refl _ | apply Drawn0.step)⟩
       ·rw [if_neg c7] at H
        have c7b0 : (!(((rd_T87 l0 x5_1).f0) == ((rd_T87 l1 x5_1).f0)) || (!(((rd_T87 l0 x5_1).f1) == ((rd_T87 l1 x5_1).f1)) || (!(((rd_T87 l0 x5_1).f2) == ((rd_T87 l1 x5_1).f2))))) = false := by first | (simpa using c7) | exact Bool.eq_false_iff.mpr c7 | exact eq_true_of_ne_false c7
        clear c7
        have H' := Aside0.mk H
        clear H
        have p201 : 0 ≤ (x5_1 : Int) := of_decide_eq_true (by first | (with_reducible assumption) | assumption)
        have q201 : x5_1 < (l0.length : Int) := of_decide_eq_true (by first | (with_reducible assumption) | assumption)
        obtain ⟨ad201, e201, hx201_0, hx201_1, hx201_2⟩ := at_T87 HR0.out x5_1 p201 q201
        cases e201
        replace p201 := eq_true p201
        replace q201 := eq_true q201
        have p202 : 0 ≤ (x5_1 : Int) := of_decide_eq_true (by first | (with_reducible assumption) | assumption)
        have q202 : x5_1 < (l1.length : Int) := of_decide_eq_true (by first | (with_reducible assumption) | assumption)
        obtain ⟨ad202, e202, hx202_0, hx202_1, hx202_2⟩ := at_T87 HR1.out x5_1 p202 q202
        cases e202
        replace p202 := eq_true p202
        replace q202 := eq_true q202
        go_wp2
        repeat (go_quiet (fail); try go_wp2)
        go_roundg k1
        case measure => have := HK1.out; omega
        case rel => exact ⟨(wrap64 (x5_1 + 1)), (by first | rfl | (simp; done) | (simp [*]; done)), H', ⟨by have := HK1.out; omega⟩, by repeat (first | exact Drawn0.refl _ | apply Drawn0.step)⟩
      ·rw [if_neg c6] at H
       exact absurd H (by simp)
     ·rw [if_neg c5] at H
      exact absurd H (by simp)
    ·rw [if_neg c4] at H
     have c4b0 : decide (x5_1 < (l0.length : Int)) = false := decide_eq_false c4
     clear c4
     obtain rfl := Option.some.inj H
     go_wp2
     repeat (go_quiet (fail); try go_wp2)
     go_ret
     exact ⟨by first | rfl | (simp; done) | (simp only [i64_w]; done) | (simp [*]; done), by repeat (first | exact Drawn0.refl _ | apply Drawn0.step)⟩
 ·rw [if_neg c3] at H
  have c3b0 : ((l0.length : Int) == (l1.length : Int)) = false := beq_eq_false_iff_ne.mpr c3
  have c3b1 : ((l0.length : Int) != (l1.length : Int)) = true := bne_iff_ne.mpr c3
  have c3b2 : (l0.length == l1.length) = false := by first | simpa using c3 | (simp at c3 ⊢; omega)
  obtain rfl := Option.some.inj H
  go_enter Try.func29, Try.ntmps29
  go_wp2
  repeat (go_quiet (fail); try go_wp2)
  go_ret
  exact ⟨by first | rfl | (simp; done) | (simp only [i64_w]; done) | (simp [*]; done), by repeat (first | exact Drawn0.refl _ | apply Drawn0.step)⟩

/-! ### probe_LeastD: function 21 (by hand) -/
-- probe_may probe_fits slices_Clone_api_Task
def leastD.T3 : Bool × List (List Nat × List Nat) := (true, [([], []), ([], []), ([0, 1], [0, 1]), ([2], [2]), ([3], [3]), ([], []), ([], []), ([5, 6], [5, 6]), ([7], [7]), ([8], [8]), ([], []), ([4, 9, 10], [4, 9, 10]), ([11, 11, 0, 1, 2, 3, 4, 5, 6, 7, 8, 9, 10, 11], [11])])
def leastD.B3 : List Nat := [0, 0, 3, 7, 15, 0, 0, 96, 224, 480, 0, 2047, 4095]
theorem leastD.tab3 : rtab .any (opsOf Try.f21 3) = leastD.T3 := by kernel_rfl
theorem leastD.bits3 : waitsOk leastD.T3.2 leastD.B3 = true := by kernel_rfl
def probe_LeastD.f (k : Nat) (l0 : List S28) (a1 : Int) : Option Int := (probe_may.f k l0 a1).bind fun b => if b = true then (if l0.length < 3518437208883 then (firstO k (fun n => probe_fits.f k (l0.set a1.toNat (chD (rd_T28 l0 a1) n))) (rd_T28 l0 a1).f1 (rd_T28 l0 a1).f2).bind fun less => some less else none) else some 0
theorem probe_LeastD.mono : ∀ a0 a1 k, LeO (probe_LeastD.f k a0 a1) (probe_LeastD.f (k + 1) a0 a1) := by
 intro a0 a1 k
 unfold probe_LeastD.f
 exact LeO.bind (probe_may.mono _ _ k) (fun b => LeO.ite (LeO.ite (LeO.bind (firstO_mono (fun n => probe_fits.mono _ k) k _ _) (fun _ => LeO.refl _)) (LeO.refl _)) (LeO.refl _))
set_option maxHeartbeats 8000000 in
set_option maxRecDepth 100000 in
theorem probe_LeastD.calls (k : Nat) (A0 : Option Addr) (c0 : Nat) (l0 : List S28) (a1 : Int) (r : Int) (w : World) (hr0 : Kd.C k28 w A0 l0.length l0) (hc0 : l0.length ≤ c0) (h : probe_LeastD.f k l0 a1 = some r) :
  Calls Try.prog 21 #[.slice A0 l0.length c0, .int .i64 a1] w fun e w' => e = .returned (.int .i64 r) ∧ Below w.heap.size w w' := by
 unfold probe_LeastD.f at h
 obtain ⟨b, hb, h1⟩ := Option.bind_eq_some_iff.mp h
 have HMY := Lib.hid hb
 have HR0 := Lib.hid hr0
 have HC0 := Lib.hid hc0
 cases b with
 | false =>
  rw [if_neg (by decide)] at h1
  obtain rfl := Option.some.inj h1
  clear h h1 hb hr0 hc0
  go_enter Try.func21, Try.ntmps21
  go_wp2_with (go_at_call 45; refine (probe_may.calls k A0 c0 l0 a1 false _ (Kd.C_alloc (Kd.C_alloc HR0.out (.cells #[.slice A0 l0.length c0] 24)) (.cells #[.int .i64 a1] 3)) HC0.out HMY.out).mono ?_; rintro e w1 ⟨rfl, q1⟩; have HB1 := Lib.hid (below_step (below_alloc (below_alloc (Below.refl w.heap.size w) _) _) q1); clear q1)
  go_ret
  exact ⟨rfl, HB1.out⟩
 | true =>
  rw [if_pos rfl] at h1
  have hmy := hb
  unfold probe_may.f at hmy
  by_cases p0 : a1 ≥ 0
  case neg => rw [if_neg p0] at hmy; cases hmy
  rw [if_pos p0] at hmy
  by_cases p1 : a1 < (l0.length : Int)
  case neg => rw [if_neg p1] at hmy; cases hmy
  obtain ⟨i, rfl⟩ := Int.eq_ofNat_of_zero_le p0
  by_cases hl : l0.length < 3518437208883
  case neg => rw [if_neg hl] at h1; cases h1
  rw [if_pos hl, Int.toNat_natCast] at h1
  obtain ⟨less, hless, h2⟩ := Option.bind_eq_some_iff.mp h1
  obtain ⟨x, hxe⟩ : ∃ x, rd_T28 l0 (i : Int) = x := ⟨_, rfl⟩
  rw [hxe] at hless
  try rw [hxe] at h2
  have hx : l0[i]? = some x := by
   rw [List.getElem?_eq_getElem (show i < l0.length by omega), ← hxe]
   unfold rd_T28
   rw [Int.toNat_natCast, List.getD_eq_getElem?_getD, List.getElem?_eq_getElem (show i < l0.length by omega)]; rfl
  obtain rfl := Option.some.inj h2
  have HLS := Lib.hid hless
  have HXX := Lib.hid hx
  have HXE := Lib.hid hxe
  have HLN := Lib.hid hl
  clear h h1 h2 hb hmy hr0 hc0 hless hx hxe hl
  have i0 : (0 : Int) ≤ (i : Int) := by omega
  have i1 : (i : Int) < (l0.length : Int) := by omega
  clear p0 p1
  go_enter Try.func21, Try.ntmps21
  go_wp2_with fail
  obtain ⟨W, hW⟩ : ∃ W, (w.alloc (.cells #[.slice A0 l0.length c0] 24)).alloc (.cells #[.int .i64 (i : Int)] 3) = W := ⟨_, rfl⟩
  have HBX : Hid (BoxLI W A0 c0 l0 i w.heap.size (w.heap.size + 1)) := by
   rw [← hW]
   refine ⟨blk_alloc (heap_alloc_new w _) _, ?_, Kd.C_alloc (Kd.C_alloc HR0.out _) _⟩
   have := heap_alloc_new (w.alloc (.cells #[.slice A0 l0.length c0] 24)) (.cells #[.int .i64 (i : Int)] 3)
   simp only [World.size_alloc] at this; exact this
  have HB : Hid (Below w.heap.size w W) := by rw [← hW]; exact below_alloc (below_alloc (Below.refl _ _) _) _
  rw [hW]
  clear hW
  obtain ⟨bl, hbl⟩ : ∃ b, w.heap.size = b := ⟨_, rfl⟩
  obtain ⟨bi, hbi⟩ : ∃ b, bl + 1 = b := ⟨_, rfl⟩
  have HW0 := Lib.hid hbl
  rw [hbl, hbi] at HBX
  rw [hbl, hbi]
  clear hbl hbi
  go_wp2_with (go_at_call 45; refine (probe_may.calls k A0 c0 l0 (i : Int) true _ HBX.out.hr HC0.out HMY.out).mono ?_; rintro e w1 ⟨rfl, q1⟩; replace HBX := Lib.hid (HBX.out.below q1); replace HB := Lib.hid (below_step HB.out q1); clear q1; have cl := (blk_cell HBX.out.hl 0).trans rfl; have ci := (blk_cell HBX.out.hi 0).trans rfl; obtain ⟨ad, e0, x0, x1, x2, x3, x4⟩ := at_T28 HBX.out.hr (i : Int) i0 i1; cases e0; rw [HXE.out] at x0 x1 x2 x3 x4; simp only [Int.toNat_natCast] at x0 x1 x2 x3 x4)
  replace cl : w1.drew.cell? ⟨bl, 0, none⟩ = some (.slice (some ad) l0.length c0) := cl
  replace ci : w1.drew.cell? ⟨bi, 0, none⟩ = some (.int .i64 (i : Int)) := ci
  replace x1 : w1.drew.cell? ⟨(ad.add (i * 5)).block, (ad.add (i * 5)).off + 1, none⟩ = some (.int .i64 x.f1) := x1
  replace x2 : w1.drew.cell? ⟨(ad.add (i * 5)).block, (ad.add (i * 5)).off + 2, none⟩ = some (.int .i64 x.f2) := x2
  replace HBX := Lib.hid (HBX.out.below (below_drew (Below.refl w1.heap.size w1)))
  replace HB := Lib.hid (below_drew1 HB.out)
  clear x0 x3 x4
  refine start_ (n := 13) (S := fun w' => w'.cell? ⟨bl, 0, none⟩ = some (.slice (some ad) l0.length c0) ∧ w'.cell? ⟨bi, 0, none⟩ = some (.int .i64 (i : Int)) ∧ w'.cell? ⟨(ad.add (i * 5)).block, (ad.add (i * 5)).off + 1, none⟩ = some (.int .i64 x.f1) ∧ w'.cell? ⟨(ad.add (i * 5)).block, (ad.add (i * 5)).off + 2, none⟩ = some (.int .i64 x.f2)) (ds := []) #[false, false, false, false, false, false, false, false, false, false, false, false, false] (by kernel_rfl) rfl rfl ⟨cl, ci, x1, x2⟩ (fun hHeld => ?_); refine with_tabW leastD.tab3 leastD.bits3 (fun HT_ HW_ => ?_)
  generalize w1.drew = w5 at HBX HB cl ci x1 x2 hHeld ⊢
  refine take_ (i := 0) (N := some 9) (v := ?_) (a' := ?_) #[true, false, false, false, false, false, false, false, false, false, false, false, false] rfl rfl (take_ofW HT_.out HW_.out (by kernel_rfl)) (fun _ _ _ h => h) (Or.inl ⟨by rfl, ?_⟩) hHeld ?_ ?_
  rotate_left; (rintro w' ⟨s0, s1, s2, s3⟩; go_simp; with_reducible rfl); rotate_left; (simp only [Act.put, List.setIfInBounds_toArray, List.set_cons_zero, List.set_cons_succ, i64_w, i32_w]; rfl)
  refine take_ (i := 1) (N := some 10) (v := ?_) (a' := ?_) #[true, true, false, false, false, false, false, false, false, false, false, false, false] rfl rfl (take_ofW HT_.out HW_.out (by kernel_rfl)) (fun _ _ _ h => h) (Or.inl ⟨by rfl, ?_⟩) hHeld ?_ ?_
  rotate_left; (rintro w' ⟨s0, s1, s2, s3⟩; go_simp; with_reducible rfl); rotate_left; (simp only [Act.put, List.setIfInBounds_toArray, List.set_cons_zero, List.set_cons_succ, i64_w, i32_w]; rfl)
  refine pure_ (i := 2) (N := some 11) (v := ?_) (a' := ?_) #[true, true, true, false, false, false, false, false, false, false, false, false, false] rfl rfl (any_of HT_.out (by kernel_rfl)) (fun _ _ _ h => h) (Or.inl ⟨by rfl, ?_⟩) ?_ ?_
  rotate_left; (intro w'; go_simp; with_reducible rfl); rotate_left; (simp only [Act.put, List.setIfInBounds_toArray, List.set_cons_zero, List.set_cons_succ, i64_w, i32_w]; rfl)
  refine pure_ (i := 3) (N := some 12) (v := ?_) (a' := ?_) #[true, true, true, true, false, false, false, false, false, false, false, false, false] rfl rfl (any_of HT_.out (by kernel_rfl)) (fun _ _ _ h => h) (Or.inl ⟨by rfl, ?_⟩) ?_ ?_
  rotate_left; (intro w'; go_simp; with_reducible rfl); rotate_left; (simp only [Act.put, List.setIfInBounds_toArray, List.set_cons_zero, List.set_cons_succ, i64_w, i32_w]; rfl)
  refine take_ (i := 4) (N := some 13) (v := ?_) (a' := ?_) #[true, true, true, true, true, false, false, false, false, false, false, false, false] rfl rfl (take_ofW HT_.out HW_.out (by kernel_rfl)) (fun _ _ _ h => h) (Or.inl ⟨by rfl, ?_⟩) hHeld ?_ ?_
  rotate_left; (rintro w' ⟨s0, s1, s2, s3⟩; go_simp; with_reducible rfl); rotate_left; (simp only [Act.put, List.setIfInBounds_toArray, List.set_cons_zero, List.set_cons_succ, i64_w, i32_w]; rfl)
  refine take_ (i := 5) (N := some 14) (v := ?_) (a' := ?_) #[true, true, true, true, true, true, false, false, false, false, false, false, false] rfl rfl (take_ofW HT_.out HW_.out (by kernel_rfl)) (fun _ _ _ h => h) (Or.inl ⟨by rfl, ?_⟩) hHeld ?_ ?_
  rotate_left; (rintro w' ⟨s0, s1, s2, s3⟩; go_simp; with_reducible rfl); rotate_left; (simp only [Act.put, List.setIfInBounds_toArray, List.set_cons_zero, List.set_cons_succ, i64_w, i32_w]; rfl)
  refine take_ (i := 6) (N := some 15) (v := ?_) (a' := ?_) #[true, true, true, true, true, true, true, false, false, false, false, false, false] rfl rfl (take_ofW HT_.out HW_.out (by kernel_rfl)) (fun _ _ _ h => h) (Or.inl ⟨by rfl, ?_⟩) hHeld ?_ ?_
  rotate_left; (rintro w' ⟨s0, s1, s2, s3⟩; go_simp; with_reducible rfl); rotate_left; (simp only [Act.put, List.setIfInBounds_toArray, List.set_cons_zero, List.set_cons_succ, i64_w, i32_w]; rfl)
  refine pure_ (i := 7) (N := some 16) (v := ?_) (a' := ?_) #[true, true, true, true, true, true, true, true, false, false, false, false, false] rfl rfl (any_of HT_.out (by kernel_rfl)) (fun _ _ _ h => h) (Or.inl ⟨by rfl, ?_⟩) ?_ ?_
  rotate_left; (intro w'; go_simp; with_reducible rfl); rotate_left; (simp only [Act.put, List.setIfInBounds_toArray, List.set_cons_zero, List.set_cons_succ, i64_w, i32_w]; rfl)
  refine pure_ (i := 8) (N := some 17) (v := ?_) (a' := ?_) #[true, true, true, true, true, true, true, true, true, false, false, false, false] rfl rfl (any_of HT_.out (by kernel_rfl)) (fun _ _ _ h => h) (Or.inl ⟨by rfl, ?_⟩) ?_ ?_
  rotate_left; (intro w'; go_simp; with_reducible rfl); rotate_left; (simp only [Act.put, List.setIfInBounds_toArray, List.set_cons_zero, List.set_cons_succ, i64_w, i32_w]; rfl)
  refine take_ (i := 9) (N := some 18) (v := ?_) (a' := ?_) #[true, true, true, true, true, true, true, true, true, true, false, false, false] rfl rfl (take_ofW HT_.out HW_.out (by kernel_rfl)) (fun _ _ _ h => h) (Or.inl ⟨by rfl, ?_⟩) hHeld ?_ ?_
  rotate_left; (rintro w' ⟨s0, s1, s2, s3⟩; go_simp; with_reducible rfl); rotate_left; (simp only [Act.put, List.setIfInBounds_toArray, List.set_cons_zero, List.set_cons_succ, i64_w, i32_w]; rfl)
  refine pure_ (i := 10) (N := some 19) (v := ?_) (a' := ?_) #[true, true, true, true, true, true, true, true, true, true, true, false, false] rfl rfl (any_of HT_.out (by kernel_rfl)) (fun _ _ _ h => h) (Or.inl ⟨by rfl, ?_⟩) ?_ ?_
  rotate_left; (intro w'; go_simp; with_reducible rfl); rotate_left; (simp only [Act.put, List.setIfInBounds_toArray, List.set_cons_zero, List.set_cons_succ, i64_w, i32_w]; rfl)
  refine one_ (i := 11) (N := some 20) #[true, true, true, true, true, true, true, true, true, true, true, true, false] rfl rfl (one_of HT_.out (by kernel_rfl)) (by decide) (fun K hK => ?_)
  refine goes_ Try.func46 (by kernel_rfl) rfl #[.int .i64 x.f1, .int .i64 x.f2, .func (.func 50) #[] #[.pointer (some ⟨bl, 0, none⟩), .pointer (some ⟨bi, 0, none⟩)]] (by rfl) rfl rfl (by (try simp only [List.map_toArray, List.map_cons, List.map_nil]); first | done | rfl) ?_
  refine (firstD.calls k k (some ad) c0 l0 i bl bi x.f1 x.f2 less w5 HBX.out HC0.out HLN.out x HXX.out HLS.out).mono ?_
  rintro e w6 ⟨rfl, q1⟩
  refine ⟨_, rfl, ?_⟩
  replace HB := Lib.hid (below_step HB.out q1)
  replace cl := (q1.cell (World.block_lt_of_cell? w5 _ cl)).trans cl
  replace ci := (q1.cell (World.block_lt_of_cell? w5 _ ci)).trans ci
  replace x1 := (q1.cell (World.block_lt_of_cell? w5 _ x1)).trans x1
  replace x2 := (q1.cell (World.block_lt_of_cell? w5 _ x2)).trans x2
  clear q1
  refine hK.out _ _ ⟨cl, ci, x1, x2⟩ (fun hHeld => ?_)
  clear hK K
  refine norm_ (a' := ?_) ?_ ?_
  rotate_left; (show Act.put _ (some 20) _ = _; simp only [Act.put, List.setIfInBounds_toArray, List.set_cons_zero, List.set_cons_succ, i64_w, i32_w]; rfl)
  refine pure_ (i := 12) (N := some 4) (v := ?_) (a' := ?_) #[true, true, true, true, true, true, true, true, true, true, true, true, true] rfl rfl (any_of HT_.out (by kernel_rfl)) (fun _ _ _ h => h) (Or.inl ⟨by rfl, ?_⟩) ?_ ?_
  rotate_left; (intro w'; go_simp; with_reducible rfl); rotate_left; (simp only [Act.put, List.setIfInBounds_toArray, List.set_cons_zero, List.set_cons_succ, i64_w, i32_w]; rfl)
  refine done_ (done_of HT_.out (by kernel_rfl)) ?_
  clear hHeld
  go_wp2
  go_ret
  exact ⟨rfl, HB.out⟩

/-! ### table_Tasks: function 90 -/
def table_Tasks.l0 : Nat → List (S28) → List (S54) → Int → Int → Option ((List (S28)))
 | 0, _, _, _, _ => none
 | k + 1, x3, x7, x8, x9 => if x9 < x8 then (if 0 ≤ x9 then (if x9 < (x7.length : Int) then (if x3.length < 3518437208883 then (table_Tasks.l0 k (x3 ++ [(⟨(rd_T54 x7 x9).f0.f0, (rd_T54 x7 x9).f0.f1, (rd_T54 x7 x9).f0.f2, (rd_T54 x7 x9).f0.f3, (rd_T54 x7 x9).f0.f4⟩ : S28)]) x7 x8 (wrap64 (x9 + 1))) else (none)) else (none)) else (none)) else (some x3)
def table_Tasks.f (k : Nat) (l0_0 : List (S54)) (a0_1 : Int) : Option ((List (S28))) := table_Tasks.l0 k ([] : List (S28)) l0_0 (l0_0.length : Int) 0
theorem table_Tasks.mono_l : ∀ k, (∀ y0 y1 y2 y3, LeO (table_Tasks.l0 k y0 y1 y2 y3) (table_Tasks.l0 (k + 1) y0 y1 y2 y3))
 | 0 => fun _ _ _ _ r h => by simp [table_Tasks.l0] at h
 | k + 1 => by
  have ih0 := table_Tasks.mono_l k
  ·intro y0 y1 y2 y3
   unfold table_Tasks.l0
   repeat' first
   | (with_reducible exact ih0 _ _ _ _)
   | (with_reducible exact LeO.refl _)
   | (with_reducible exact LeO.none _)
   | (with_reducible refine LeO.ite ?_ ?_)
   | (with_reducible refine LeO.bind ?_ (fun _ => ?_))
   | exact ih0 _ _ _ _
   | exact LeO.none _
   | refine LeO.ite ?_ ?_
   | refine LeO.bind ?_ (fun _ => ?_)
theorem table_Tasks.mono : ∀ a0 a1 k, LeO (table_Tasks.f k a0 a1) (table_Tasks.f (k + 1) a0 a1) := by
 intro a0 a1 k
 have ih0 := table_Tasks.mono_l k
 unfold table_Tasks.f
 repeat' first
   | (with_reducible exact ih0 _ _ _ _)
   | (with_reducible exact LeO.refl _)
   | (with_reducible exact LeO.none _)
   | (with_reducible refine LeO.ite ?_ ?_)
   | (with_reducible refine LeO.bind ?_ (fun _ => ?_))
   | exact ih0 _ _ _ _
   | exact LeO.none _
   | refine LeO.ite ?_ ?_
   | refine LeO.bind ?_ (fun _ => ?_)
set_option maxHeartbeats 8000000 in
set_option maxRecDepth 100000 in
theorem table_Tasks.calls (k : Nat) (A0_0 : Option Addr) (c0_0 : Nat) (l0_0 : List (S54)) (a0_1 : Int) (r : List (S28)) (w : World) (hr0_0 : Kd.C k54 w A0_0 l0_0.length l0_0) (hc0_0 : l0_0.length ≤ c0_0) (h : table_Tasks.f k l0_0 a0_1 = some r) :
  Calls Try.prog 90 #[.agg #[.slice A0_0 l0_0.length c0_0, .int .i64 a0_1]] w fun e w' => ∃ v0_ : Value, e = .returned (v0_) ∧ Kd.R k28 28 w' w.heap.size (fun _ => True) v0_ r ∧ Below w.heap.size w w' := by
 have hu52 := Try.underlying52
 have hu54 := Try.underlying54
 have hu28 := Try.underlying28
 have HR0_0 := Aside0.mk hr0_0
 have HC0_0 := Aside0.mk hc0_0
 clear hr0_0 hc0_0
 have HB := Aside0.mk (Below.refl w.heap.size w)
 have H : (table_Tasks.l0 k ([] : List (S28)) l0_0 (l0_0.length : Int) 0) = some r := h
 clear h
 have H' := Aside0.mk H
 clear H
 go_enter Try.func90, Try.ntmps90
 go_wp2_with (first | ((with_reducible refine gate_dst (N := 1) rfl ?_); refine box_event ?hg (N := 1) ?hd (cs := #[.slice A0_0 l0_0.length c0_0, .int .i64 a0_1]) (t := 52) ?hr ?_; (case hd => rfl); (case hg => rfl); (case hr => first | (go_simp; done) | (go_simp; rfl)); intro gb203 hg w2 hbox hb; have n0_ := Aside0.mk (below_step (by repeat (first | (with_reducible first | exact HB.out | apply below_alloc | apply pw_below_drewN | apply below_drew1) | exact HB.out)) hb); have n1_ := Aside0.mk (hbox); have n2_ := Aside0.mk ((by rw [hg]; exact (below_size (by repeat (first | (with_reducible first | exact HB.out | apply below_alloc | apply pw_below_drewN | apply below_drew1) | exact HB.out))) : w.heap.size ≤ gb203)); have n3_ := Aside0.mk ((by rw [hg]; exact (below_size (by repeat (first | (with_reducible first | exact HB.out | apply below_alloc | apply pw_below_drewN | apply below_drew1) | exact HB.out))) : w.heap.size ≤ gb203)); clear HB; have HB := n0_; have BK203 := n1_; have GW203 := n2_; have GE203 := n3_; clear n0_ n1_ n2_ n3_; clear hb hbox hg; have hcz3_0 : w2.cell? ⟨gb203, 0, none⟩ = some (.slice A0_0 l0_0.length c0_0) := (blk_cell BK203.out 0).trans rfl; have hcz3_1 : w2.cell? ⟨gb203, 1, none⟩ = some (.int .i64 a0_1) := (blk_cell BK203.out 1).trans rfl; have hfz3_0 := blk_frozen BK203.out 0; have hfz3_1 := blk_frozen BK203.out 1))
 go_loopg [3, 9] k (fun kq v3 v9 w' => ∃ (x3_1 : List (S28)) (x9_1 : Int), v9 = .int .i64 x9_1 ∧ Aside0 (table_Tasks.l0 kq x3_1 l0_0 (l0_0.length : Int) x9_1 = some r) ∧ Aside0 (kq ≤ k) ∧ Aside0 (Kd.R k28 28 w' w.heap.size (fun _ => True) v3 x3_1) ∧ Aside0 (w'.heap[gb203]? = some (.cells #[(.slice A0_0 l0_0.length c0_0), .int .i64 a0_1] 52 (0, 0))) ∧ Aside0 (Below w.heap.size w w'))
 case atStart => exact ⟨(([] : List (S28))), (0), (by first | rfl | (simp; done) | (simp [*]; done)), H', ⟨Nat.le_refl _⟩, ⟨by first | exact Kd.R_nil _ _ _ _ _ | exact Kd.N_nil _ _ _ _ _ | exact Kd.V_nil _ _ _ _ _ | exact Kd.Q_nil _ _ _ _ _ | exact Kd.S_nil _ _ _ _ _⟩, ⟨by (with_reducible repeat (first | refine blk_drewN ?_ _ | refine blk_drew ?_ | refine blk_alloc ?_ _)); exact BK203.out⟩, ⟨by repeat (first | (with_reducible first | exact HB.out | apply below_alloc | apply pw_below_drewN | apply below_drew1 | refine below_set ?_ GE203.out) | exact HB.out)⟩⟩
 case round =>
  clear H'
  try clear p2
  try clear hcz3_0
  try clear hcz3_1
  try clear hfz3_0
  try clear hfz3_1
  obtain ⟨x3_1, x9_1, rfl, HA, HK1, HO_3, BK203, HB⟩ := hrel
  cases gk with
  | zero => exact absurd HA.out (by simp [table_Tasks.l0])
  | succ k1 =>
   have H := HA.out
   clear HA
   simp only [table_Tasks.l0] at H
   by_cases c4 : x9_1 < (l0_0.length : Int)
   ·rw [if_pos c4] at H
    have c4b0 : decide (x9_1 < (l0_0.length : Int)) = true := decide_eq_true c4
    clear c4
    by_cases c5 : 0 ≤ x9_1
    ·rw [if_pos c5] at H
     have c5b0 : decide (0 ≤ x9_1) = true := decide_eq_true c5
     clear c5
     by_cases c6 : x9_1 < (l0_0.length : Int)
     ·rw [if_pos c6] at H
      have c6b0 : decide (x9_1 < (l0_0.length : Int)) = true := decide_eq_true c6
      clear c6
      by_cases c7 : x3_1.length < 3518437208883
      ·rw [if_pos c7] at H
       have LMc7 := Aside0.mk c7
       clear c7
       obtain ⟨y206, hy206⟩ : ∃ y_ : List (S28), y_ = (x3_1 ++ [(⟨(rd_T54 l0_0 x9_1).f0.f0, (rd_T54 l0_0 x9_1).f0.f1, (rd_T54 l0_0 x9_1).f0.f2, (rd_T54 l0_0 x9_1).f0.f3, (rd_T54 l0_0 x9_1).f0.f4⟩ : S28)]) := ⟨_, rfl⟩
       replace H : (table_Tasks.l0 k1 y206 l0_0 (l0_0.length : Int) (wrap64 (x9_1 + 1))) = some r := by first | (rw [hy206]; with_reducible exact H) | (have H2_ := (Option.bind_some _ _).symm.trans H; rw [hy206]; with_reducible exact H2_) | (have H2_ := (Option.bind_some _ _).symm.trans H; with_reducible exact H2_) | with_reducible exact H | (rw [hy206]; exact H) | exact H
       have Ny206 := Aside0.mk hy206
       clear hy206
       have H' := Aside0.mk H
       clear H
       have p204 : 0 ≤ (x9_1 : Int) := of_decide_eq_true (by first | (with_reducible assumption) | assumption)
       have q204 : x9_1 < (l0_0.length : Int) := of_decide_eq_true (by first | (with_reducible assumption) | assumption)
       obtain ⟨ad204, e204, hx204_0, hx204_1, hx204_2, hx204_3, hx204_4, hx204_5⟩ := at_T54 HR0_0.out x9_1 p204 q204
       cases e204
       replace hx204_0 := (HB.out.cell (World.block_lt_of_cell? w _ hx204_0)).trans hx204_0
       replace hx204_1 := (HB.out.cell (World.block_lt_of_cell? w _ hx204_1)).trans hx204_1
       replace hx204_2 := (HB.out.cell (World.block_lt_of_cell? w _ hx204_2)).trans hx204_2
       replace hx204_3 := (HB.out.cell (World.block_lt_of_cell? w _ hx204_3)).trans hx204_3
       replace hx204_4 := (HB.out.cell (World.block_lt_of_cell? w _ hx204_4)).trans hx204_4
       replace hx204_5 := (HB.out.cell (World.block_lt_of_cell? w _ hx204_5)).trans hx204_5
       replace p204 := eq_true p204
       replace q204 := eq_true q204
       go_wp2_with (first | ((with_reducible refine gate_dst (N := 5) rfl ?_); refine box_event ?hg (N := 5) ?hd (cs := #[.int .i64 0, .int .i64 0, .int .i64 0, .int .i64 0, .int .i64 0, .bool false]) (t := 54) ?hr ?_; (case hd => rfl); (case hg => rfl); (case hr => first | (go_simp; done) | (go_simp; rfl)); intro gb205 hg w8 hbox hb; have n0_ := Aside0.mk (Kd.R_below (by (with_reducible repeat (first | apply Kd.R_alloc | apply Kd.R_drewN | apply Kd.R_drew)); exact HO_3.out) hb); have n1_ := Aside0.mk (blk_below (g := gb203) (o := .cells #[.slice (some ad204) l0_0.length c0_0, .int .i64 a0_1] 52 (0, 0)) (by (with_reducible repeat (first | refine blk_drewN ?_ _ | refine blk_drew ?_ | refine blk_alloc ?_ _)); exact BK203.out) hb); have n2_ := Aside0.mk (below_step (by repeat (first | (with_reducible first | exact HB.out | apply below_alloc | apply pw_below_drewN | apply below_drew1 | refine below_set ?_ GE203.out) | exact HB.out)) hb); have n3_ := Aside0.mk (hbox); have n4_ := Aside0.mk ((by rw [hg]; exact (below_size (by repeat (first | (with_reducible first | exact HB.out | apply below_alloc | apply pw_below_drewN | apply below_drew1 | refine below_set ?_ GE203.out) | exact HB.out))) : w.heap.size ≤ gb205)); have n5_ := Aside0.mk ((by rw [hg]; exact (below_size (by repeat (first | (with_reducible first | exact HB.out | apply below_alloc | apply pw_below_drewN | apply below_drew1 | refine below_set ?_ GE203.out) | exact HB.out))) : w.heap.size ≤ gb205)); have n6_ := Aside0.mk ((by rw [hg]; exact Nat.ne_of_lt (blk_lt (g := gb203) (o := .cells #[.slice (some ad204) l0_0.length c0_0, .int .i64 a0_1] 52 (0, 0)) (by (with_reducible repeat (first | refine blk_drewN ?_ _ | refine blk_drew ?_ | refine blk_alloc ?_ _)); exact BK203.out)) : gb203 ≠ gb205)); have n7_ := Aside0.mk ((by rw [hg]; exact Nat.ne_of_gt (blk_lt (g := gb203) (o := .cells #[.slice (some ad204) l0_0.length c0_0, .int .i64 a0_1] 52 (0, 0)) (by (with_reducible repeat (first | refine blk_drewN ?_ _ | refine blk_drew ?_ | refine blk_alloc ?_ _)); exact BK203.out)) : gb205 ≠ gb203)); clear HO_3; clear BK203; clear HB; have HO_3 := n0_; have BK203 := n1_; have HB := n2_; have BK205 := n3_; have GW205 := n4_; have GE205 := n5_; have NB203_205 := n6_; have NB205_203 := n7_; clear n0_ n1_ n2_ n3_ n4_ n5_ n6_ n7_; clear hb hbox hg; have hnb9 := NB205_203.out; have hnc9 := NB203_205.out; have hcz10_0 : w8.cell? ⟨gb205, 0, none⟩ = some (.int .i64 0) := (blk_cell BK205.out 0).trans rfl; have hcz10_1 : w8.cell? ⟨gb205, 1, none⟩ = some (.int .i64 0) := (blk_cell BK205.out 1).trans rfl; have hcz10_2 : w8.cell? ⟨gb205, 2, none⟩ = some (.int .i64 0) := (blk_cell BK205.out 2).trans rfl; have hcz10_3 : w8.cell? ⟨gb205, 3, none⟩ = some (.int .i64 0) := (blk_cell BK205.out 3).trans rfl; have hcz10_4 : w8.cell? ⟨gb205, 4, none⟩ = some (.int .i64 0) := (blk_cell BK205.out 4).trans rfl; have hcz10_5 : w8.cell? ⟨gb205, 5, none⟩ = some (.bool false) := (blk_cell BK205.out 5).trans rfl; have hfz10_0 := blk_frozen BK205.out 0; have hfz10_1 := blk_frozen BK205.out 1; have hfz10_2 := blk_frozen BK205.out 2; have hfz10_3 := blk_frozen BK205.out 3; have hfz10_4 := blk_frozen BK205.out 4; have hfz10_5 := blk_frozen BK205.out 5) | ((with_reducible refine gate_builtin (b := .append) (xs := #[.tmp 13, .tmp 16]) rfl ?_); at_builtin; refine Kd.R_append k28 (w0 := w) w.heap.size rfl (.tmp 13) (.tmp 16) 24 28 (.agg #[(.int .i64 0), (.int .i64 0), (.int .i64 0), (.int .i64 0), (.int .i64 0)]) 40 rfl Try.underlying24 info28 rfl (by decide) (by omega) u3 x3_1 (⟨(rd_T54 l0_0 x9_1).f0.f0, (rd_T54 l0_0 x9_1).f0.f1, (rd_T54 l0_0 x9_1).f0.f2, (rd_T54 l0_0 x9_1).f0.f3, (rd_T54 l0_0 x9_1).f0.f4⟩ : S28) [.int .i64 ((rd_T54 l0_0 x9_1).f0.f0), .int .i64 ((rd_T54 l0_0 x9_1).f0.f1), .int .i64 ((rd_T54 l0_0 x9_1).f0.f2), .int .i64 ((rd_T54 l0_0 x9_1).f0.f3), .int .i64 ((rd_T54 l0_0 x9_1).f0.f4)] (fun _ => True) (fun _ => False) rfl (by first | (go_simp; done) | (go_simp; rfl)) ?aP (fun _ hk => hk.elim) ?aF ?aO ?aB ?aS ?aL ?_; (case aP => exact k28_mkM _ _ _ (⟨(rd_T54 l0_0 x9_1).f0.f0, (rd_T54 l0_0 x9_1).f0.f1, (rd_T54 l0_0 x9_1).f0.f2, (rd_T54 l0_0 x9_1).f0.f3, (rd_T54 l0_0 x9_1).f0.f4⟩ : S28)); (case aB => exact (by repeat (first | (with_reducible first | exact HB.out | apply below_alloc | apply pw_below_drewN | apply below_drew1 | refine below_set ?_ GE203.out | refine below_set ?_ GE205.out) | exact HB.out))); (case aF => exact (fun _ _ => trivial)); (case aO => exact (by (with_reducible repeat (first | apply Kd.R_alloc | apply Kd.R_drewN | apply Kd.R_drew)); exact Kd.R_mono (Kd.R_far (p := ⟨gb205, 5, none⟩) (Kd.R_far (p := ⟨gb205, 4, none⟩) (Kd.R_far (p := ⟨gb205, 3, none⟩) (Kd.R_far (p := ⟨gb205, 2, none⟩) (Kd.R_far (p := ⟨gb205, 1, none⟩) (Kd.R_far (p := ⟨gb205, 0, none⟩) (Kd.R_types HO_3.out BK205.out (by decide)) (fun _ hk => hk.2) (.int .i64 ((rd_T54 l0_0 x9_1).f0.f0))) (fun _ hk => hk.2) (.int .i64 ((rd_T54 l0_0 x9_1).f0.f1))) (fun _ hk => hk.2) (.int .i64 ((rd_T54 l0_0 x9_1).f0.f2))) (fun _ hk => hk.2) (.int .i64 ((rd_T54 l0_0 x9_1).f0.f3))) (fun _ hk => hk.2) (.int .i64 ((rd_T54 l0_0 x9_1).f0.f4))) (fun _ hk => hk.2) (.bool ((rd_T54 l0_0 x9_1).f1))) (fun _ hk => trivial))); (case aS => exact (below_size (by repeat (first | (with_reducible first | exact HB.out | apply below_alloc | apply pw_below_drewN | apply below_drew1 | refine below_set ?_ GE203.out | refine below_set ?_ GE205.out) | exact HB.out)))); (case aL => have := LMc7.out; omega); intro v207 w11 ho hb hg hat; rw [← Ny206.out] at ho; have n0_ := Aside0.mk (blk_grown (g := gb203) (o := .cells #[.slice (some ad204) l0_0.length c0_0, .int .i64 a0_1] 52 (0, 0)) (by (with_reducible repeat (first | refine blk_drewN ?_ _ | refine blk_drew ?_ | refine blk_alloc ?_ _)); refine blk_far ?_ NB203_205.out _; (with_reducible repeat (first | refine blk_drewN ?_ _ | refine blk_drew ?_ | refine blk_alloc ?_ _)); refine blk_far ?_ NB203_205.out _; (with_reducible repeat (first | refine blk_drewN ?_ _ | refine blk_drew ?_ | refine blk_alloc ?_ _)); refine blk_far ?_ NB203_205.out _; (with_reducible repeat (first | refine blk_drewN ?_ _ | refine blk_drew ?_ | refine blk_alloc ?_ _)); refine blk_far ?_ NB203_205.out _; (with_reducible repeat (first | refine blk_drewN ?_ _ | refine blk_drew ?_ | refine blk_alloc ?_ _)); refine blk_far ?_ NB203_205.out _; (with_reducible repeat (first | refine blk_drewN ?_ _ | refine blk_drew ?_ | refine blk_alloc ?_ _)); refine blk_far ?_ NB203_205.out _; (with_reducible repeat (first | refine blk_drewN ?_ _ | refine blk_drew ?_ | refine blk_alloc ?_ _)); exact BK203.out) hg (Kd.R_ne HO_3.out BK203.out (by decide))); have n1_ := Aside0.mk (blk_grown (g := gb205) (o := .cells #[.int .i64 ((rd_T54 l0_0 x9_1).f0.f0), .int .i64 ((rd_T54 l0_0 x9_1).f0.f1), .int .i64 ((rd_T54 l0_0 x9_1).f0.f2), .int .i64 ((rd_T54 l0_0 x9_1).f0.f3), .int .i64 ((rd_T54 l0_0 x9_1).f0.f4), .bool ((rd_T54 l0_0 x9_1).f1)] 54 (0, 0)) (by (with_reducible repeat (first | refine blk_drewN ?_ _ | refine blk_drew ?_ | refine blk_alloc ?_ _)); refine blk_put (cs := #[.int .i64 ((rd_T54 l0_0 x9_1).f0.f0), .int .i64 ((rd_T54 l0_0 x9_1).f0.f1), .int .i64 ((rd_T54 l0_0 x9_1).f0.f2), .int .i64 ((rd_T54 l0_0 x9_1).f0.f3), .int .i64 ((rd_T54 l0_0 x9_1).f0.f4), .bool false]) ?_ 5 _ rfl; (with_reducible repeat (first | refine blk_drewN ?_ _ | refine blk_drew ?_ | refine blk_alloc ?_ _)); refine blk_put (cs := #[.int .i64 ((rd_T54 l0_0 x9_1).f0.f0), .int .i64 ((rd_T54 l0_0 x9_1).f0.f1), .int .i64 ((rd_T54 l0_0 x9_1).f0.f2), .int .i64 ((rd_T54 l0_0 x9_1).f0.f3), .int .i64 0, .bool false]) ?_ 4 _ rfl; (with_reducible repeat (first | refine blk_drewN ?_ _ | refine blk_drew ?_ | refine blk_alloc ?_ _)); refine blk_put (cs := #[.int .i64 ((rd_T54 l0_0 x9_1).f0.f0), .int .i64 ((rd_T54 l0_0 x9_1).f0.f1), .int .i64 ((rd_T54 l0_0 x9_1).f0.f2), .int .i64 0, .int .i64 0, .bool false]) ?_ 3 _ rfl; (with_reducible repeat (first | refine blk_drewN ?_ _ | refine blk_drew ?_ | refine blk_alloc ?_ _)); refine blk_put (cs := #[.int .i64 ((rd_T54 l0_0 x9_1).f0.f0), .int .i64 ((rd_T54 l0_0 x9_1).f0.f1), .int .i64 0, .int .i64 0, .int .i64 0, .bool false]) ?_ 2 _ rfl; (with_reducible repeat (first | refine blk_drewN ?_ _ | refine blk_drew ?_ | refine blk_alloc ?_ _)); refine blk_put (cs := #[.int .i64 ((rd_T54 l0_0 x9_1).f0.f0), .int .i64 0, .int .i64 0, .int .i64 0, .int .i64 0, .bool false]) ?_ 1 _ rfl; (with_reducible repeat (first | refine blk_drewN ?_ _ | refine blk_drew ?_ | refine blk_alloc ?_ _)); refine blk_put (cs := #[.int .i64 0, .int .i64 0, .int .i64 0, .int .i64 0, .int .i64 0, .bool false]) ?_ 0 _ rfl; (with_reducible repeat (first | refine blk_drewN ?_ _ | refine blk_drew ?_ | refine blk_alloc ?_ _)); exact BK205.out) hg (Kd.R_ne HO_3.out BK205.out (by decide))); have n2_ := Aside0.mk (hb); have n3_ := Aside0.mk (ho); clear BK203; clear BK205; clear HB; clear HO_3; have BK203 := n0_; have BK205 := n1_; have HB := n2_; have HO208 := n3_; clear n0_ n1_ n2_ n3_; clear ho hb hg hat))
       go_roundg k1
       case measure => have := HK1.out; omega
       case rel => exact ⟨(y206), (wrap64 (x9_1 + 1)), (by first | rfl | (simp; done) | (simp [*]; done)), H', ⟨by have := HK1.out; omega⟩, ⟨by (with_reducible repeat (first | apply Kd.R_alloc | apply Kd.R_drewN | apply Kd.R_drew)); exact HO208.out⟩, ⟨by (with_reducible repeat (first | refine blk_drewN ?_ _ | refine blk_drew ?_ | refine blk_alloc ?_ _)); exact BK203.out⟩, ⟨by repeat (first | (with_reducible first | exact HB.out | apply below_alloc | apply pw_below_drewN | apply below_drew1 | refine below_set ?_ GE203.out | refine below_set ?_ GE205.out) | exact HB.out)⟩⟩
      ·rw [if_neg c7] at H
       exact absurd H (by simp)
     ·rw [if_neg c6] at H
      exact absurd H (by simp)
    ·rw [if_neg c5] at H
     exact absurd H (by simp)
   ·rw [if_neg c4] at H
    have c4b0 : decide (x9_1 < (l0_0.length : Int)) = false := decide_eq_false c4
    clear c4
    obtain rfl := Option.some.inj H
    go_wp2
    go_ret
    exact ⟨_, by first | rfl | (simp [errW_none, errW_some] <;> rfl) | (simp [*, errW_none, errW_some] <;> rfl), by (with_reducible repeat (first | apply Kd.R_alloc | apply Kd.R_drewN | apply Kd.R_drew)); exact HO_3.out, by repeat (first | (with_reducible first | exact HB.out | apply below_alloc | apply pw_below_drewN | apply below_drew1 | refine below_set ?_ GE203.out) | exact HB.out)⟩

/-! ### table_In: function 67 (by hand) -/
/-- The cells of a row of tasks. -/
def TR (cur : Array Value) (xs : List S28) : Prop := ∀ j x, xs[j]? = some x → cur[j * 5]? = some (.int .i64 x.f0) ∧ cur[j * 5 + 1]? = some (.int .i64 x.f1) ∧ cur[j * 5 + 2]? = some (.int .i64 x.f2) ∧ cur[j * 5 + 3]? = some (.int .i64 x.f3) ∧ cur[j * 5 + 4]? = some (.int .i64 x.f4)
theorem TR.len {cur : Array Value} {xs : List S28} (h : TR cur xs) : xs.length * 5 ≤ cur.size := by
 rcases Nat.eq_zero_or_pos xs.length with h0 | h0
 ·omega
 ·obtain ⟨_, _, _, _, h5⟩ := h (xs.length - 1) xs[xs.length - 1] (List.getElem?_eq_getElem (by omega))
  have := (Array.getElem?_eq_some_iff.1 h5).1
  omega
theorem TR.take {cur : Array Value} {xs ys : List S28} (h : TR cur (xs ++ ys)) : TR cur xs := fun j x hj => h j x (by rw [List.getElem?_append_left (List.getElem?_eq_some_iff.1 hj).1]; exact hj)
theorem TR.set {cur : Array Value} {xs : List S28} (h : TR cur xs) (i : Nat) (hi : i < xs.length) (v : S28) :
  TR (((((cur.setIfInBounds (i * 5) (.int .i64 v.f0)).setIfInBounds (i * 5 + 1) (.int .i64 v.f1)).setIfInBounds (i * 5 + 2) (.int .i64 v.f2)).setIfInBounds (i * 5 + 3) (.int .i64 v.f3)).setIfInBounds (i * 5 + 4) (.int .i64 v.f4)) (xs.set i v) := by
 have hl := h.len
 intro j x hj
 by_cases e : i = j
 ·subst e
  rw [List.getElem?_set_self hi] at hj
  obtain rfl := Option.some.inj hj
  simp only [Array.getElem?_setIfInBounds, Array.size_setIfInBounds]
  refine ⟨?_, ?_, ?_, ?_, ?_⟩ <;> repeat (first | rw [if_pos trivial] | rw [if_neg (by omega)] | rw [if_pos (by omega)])
 ·rw [List.getElem?_set_ne e] at hj
  obtain ⟨h0, h1, h2, h3, h4⟩ := h j x hj
  simp only [Array.getElem?_setIfInBounds, Array.size_setIfInBounds]
  refine ⟨?_, ?_, ?_, ?_, ?_⟩ <;> (repeat rw [if_neg (by omega)]) <;> assumption
theorem TR_of_R {w : World} {base : Nat} {ok : Nat → Prop} {v : Value} {xs : List S28} (h : Kd.R k28 28 w base ok v xs) :
  (v = .slice none 0 0 ∧ xs = []) ∨ ∃ g cap cur, v = .slice (some ⟨g, 0, none⟩) xs.length cap ∧ base ≤ g ∧ ok g ∧ w.heap[g]? = some (.cells cur 28 (0, 0)) ∧ xs.length ≤ cap ∧ cap ≤ maxLen ∧ cur.size = cap * 5 ∧ TR cur xs := by
 obtain ⟨h0, inner, ⟨hl, hc⟩, hr⟩ := h
 rcases hc with ⟨rfl, hz⟩ | ⟨g, cap, cur, rfl, hb, hh, hn, hm, hs, ht⟩
 ·exact .inl ⟨rfl, List.length_eq_zero_iff.1 hz⟩
 ·refine .inr ⟨g, cap, cur, rfl, hb, h0 g rfl, hh, hn, hm, hs, fun j x hj => ?_⟩
  have hM := k28_openM (hr.2 j x hj)
  have hjl := (List.getElem?_eq_some_iff.1 hj).1
  have key : ∀ i u, i < 5 → ((inner.drop (j * 5)).take 5)[i]? = some u → cur[j * 5 + i]? = some u := by
   intro i u hi hu
   rw [← ht] at hu
   rw [List.getElem?_take_of_lt hi, List.getElem?_drop, List.getElem?_take_of_lt (by show j * 5 + i < xs.length * 5; omega)] at hu
   simpa using hu
  have hM' : List.take 5 (List.drop (j * 5) inner) = [.int .i64 x.f0, .int .i64 x.f1, .int .i64 x.f2, .int .i64 x.f3, .int .i64 x.f4] := hM
  rw [hM'] at key
  exact ⟨key 0 _ (by omega) rfl, key 1 _ (by omega) rfl, key 2 _ (by omega) rfl, key 3 _ (by omega) rfl, key 4 _ (by omega) rfl⟩
theorem R_of_TR {w : World} {base g cap : Nat} {ok : Nat → Prop} {cur : Array Value} {xs : List S28} (hb : base ≤ g) (hok : ok g) (hh : w.heap[g]? = some (.cells cur 28 (0, 0))) (hn : xs.length ≤ cap) (hm : cap ≤ maxLen) (hs : cur.size = cap * 5) (ht : TR cur xs) :
  Kd.R k28 28 w base ok (.slice (some ⟨g, 0, none⟩) xs.length cap) xs := by
 refine ⟨fun k hk => by cases hk; exact hok, cur.toList.take (xs.length * 5), ⟨by show (List.take (xs.length * 5) cur.toList).length = xs.length * 5; simp; omega, .inr ⟨g, cap, cur, rfl, hb, hh, hn, hm, hs, rfl⟩⟩, by show (List.take (xs.length * 5) cur.toList).length = xs.length * 5; simp; omega, fun j x hj => ?_⟩
 have hjl := (List.getElem?_eq_some_iff.1 hj).1
 obtain ⟨h0, h1, h2, h3, h4⟩ := ht j x hj
 have e : List.take 5 (List.drop (j * 5) (cur.toList.take (xs.length * 5))) = [.int .i64 x.f0, .int .i64 x.f1, .int .i64 x.f2, .int .i64 x.f3, .int .i64 x.f4] := by
  have key : ∀ i u, i < 5 → cur[j * 5 + i]? = some u → (List.take 5 (List.drop (j * 5) (cur.toList.take (xs.length * 5))))[i]? = some u := by
   intro i u hi hu
   rw [List.getElem?_take_of_lt hi, List.getElem?_drop, List.getElem?_take_of_lt (by omega)]
   simpa using hu
  apply List.ext_getElem?
  intro i
  match i with
  | 0 => rw [key 0 _ (by omega) h0]; rfl
  | 1 => rw [key 1 _ (by omega) h1]; rfl
  | 2 => rw [key 2 _ (by omega) h2]; rfl
  | 3 => rw [key 3 _ (by omega) h3]; rfl
  | 4 => rw [key 4 _ (by omega) h4]; rfl
  | i + 5 => rw [List.getElem?_eq_none (by simp; omega)]; rfl
 show k28.M w base _ x (List.take 5 (List.drop (j * 5) (cur.toList.take (xs.length * 5))))
 rw [e]
 exact k28_mkM _ _ _ _
theorem zeroCells5 (n : Nat) : (Builtin.zeroCells (Value.agg #[.int .i64 0, .int .i64 0, .int .i64 0, .int .i64 0, .int .i64 0]).cells n).toList = List.replicate (n * 5) (Value.int .i64 0) := by
 simp [Builtin.zeroCells, Value.cells]
 apply List.ext_getElem
 ·simp
 ·intro i h1 h2
  have h3 : i % 5 < 5 := Nat.mod_lt _ (by omega)
  simp
  have : i % 5 = 0 ∨ i % 5 = 1 ∨ i % 5 = 2 ∨ i % 5 = 3 ∨ i % 5 = 4 := by omega
  rcases this with e | e | e | e | e <;> rw [e] <;> rfl
def tiIdx (p : S28 → Bool) (l0 : List S28) : Int := match l0.findIdx? p with | some i => (i : Int) | none => -1
theorem tiIdx_some {p : S28 → Bool} {l0 : List S28} {k : Nat} (hk : k < l0.length) (hb : ∀ j, j < k → p (rd_T28 l0 j) = false) (h : p (rd_T28 l0 k) = true) : tiIdx p l0 = k := by
 have e : l0.findIdx? p = some k := by
  rw [List.findIdx?_eq_some_iff_getElem]
  refine ⟨hk, by simpa [rd_T28, hk] using h, fun j hj => ?_⟩
  have := hb j hj
  simpa [rd_T28, Nat.lt_trans hj hk] using this
 unfold tiIdx; rw [e]
theorem tiIdx_none {p : S28 → Bool} {l0 : List S28} (hb : ∀ j, j < l0.length → p (rd_T28 l0 j) = false) : tiIdx p l0 = -1 := by
 have e : l0.findIdx? p = none := by
  rw [List.findIdx?_eq_none_iff]
  intro x hx
  obtain ⟨j, hj, rfl⟩ := List.getElem_of_mem hx
  have := hb j hj
  simpa [rd_T28, hj] using this
 unfold tiIdx; rw [e]
set_option maxHeartbeats 4000000 in
set_option maxRecDepth 100000 in
theorem tiIndex.calls (capv : Value) (p : S28 → Bool) (A0 : Option Addr) (c0 : Nat) (l0 : List S28) (w : World) (hr0 : Kd.C k28 w A0 l0.length l0)
  (hF : ∀ (W : World) (x : S28), Below w.heap.size w W → Calls Try.prog 91 #[.agg #[.int .i64 x.f0, .int .i64 x.f1, .int .i64 x.f2, .int .i64 x.f3, .int .i64 x.f4], capv] W fun e W' => e = .returned (.bool (p x)) ∧ Below W.heap.size W W') :
  Calls Try.prog 98 #[.slice A0 l0.length c0, .func (.func 91) #[] #[capv]] w fun e w' => e = .returned (.int .i64 (tiIdx p l0)) ∧ Below w.heap.size w w' := by
 have hu := Try.underlying28
 have hmax : l0.length ≤ 9223372036854775807 := Kd.C_max hr0
 have HR0 := Aside0.mk hr0
 have HF := Aside0.mk hF
 clear hr0 hF
 go_enter Try.func98, Try.ntmps98
 go_wp2
 go_loopw [5, 8] (fun _ v8 wr => ∃ k : Nat, k ≤ l0.length ∧ v8 = .int .i64 k ∧ Aside0 (∀ j, j < k → p (rd_T28 l0 j) = false) ∧ Aside0 (Below w.heap.size w wr)) (fun _ v8 _ => l0.length - (intOf v8).toNat)
 case atStart => exact ⟨0, Nat.zero_le _, rfl, ⟨fun j hj => absurd hj (Nat.not_lt_zero _)⟩, ⟨Below.refl _ _⟩⟩
 case round =>
  obtain ⟨k, hk, rfl, HP, HB⟩ := hrel
  by_cases hlt : k < l0.length
  ·have p0 : (0 : Int) ≤ (k : Int) := by omega
   have q0 : (k : Int) < (l0.length : Int) := by omega
   obtain ⟨ad, e0, hx0, hx1, hx2, hx3, hx4⟩ := at_T28 HR0.out k p0 q0
   cases e0
   replace hx0 := (HB.out.cell (World.block_lt_of_cell? w _ hx0)).trans hx0
   replace hx1 := (HB.out.cell (World.block_lt_of_cell? w _ hx1)).trans hx1
   replace hx2 := (HB.out.cell (World.block_lt_of_cell? w _ hx2)).trans hx2
   replace hx3 := (HB.out.cell (World.block_lt_of_cell? w _ hx3)).trans hx3
   replace hx4 := (HB.out.cell (World.block_lt_of_cell? w _ hx4)).trans hx4
   simp only [Int.toNat_natCast] at hx0 hx1 hx2 hx3 hx4
   have HC := Lib.hid (HF.out wr (rd_T28 l0 k) HB.out)
   cases hb : p (rd_T28 l0 k) with
   | false =>
    rw [hb] at HC
    have HT := Lib.hid hb
    clear hb
    go_wp2_with (go_at_call 91; refine HC.out.mono ?_; rintro e w1 ⟨rfl, hb1⟩; have HB1 := Aside0.mk (below_step HB.out hb1); clear hb1)
    go_roundw
    case rel => exact ⟨k + 1, by omega, by go_num, ⟨fun j hj => by rcases Nat.lt_succ_iff_lt_or_eq.1 hj with h | rfl; exact HP.out j h; exact HT.out⟩, HB1⟩
    case measure => simp [intOf]; omega
   | true =>
    rw [hb] at HC
    have HT := Lib.hid hb
    clear hb
    go_wp2_with (go_at_call 91; refine HC.out.mono ?_; rintro e w1 ⟨rfl, hb1⟩; have HB1 := Aside0.mk (below_step HB.out hb1); clear hb1)
    go_ret
    exact ⟨by rw [tiIdx_some hlt HP.out HT.out]; rfl, HB1.out⟩
  ·go_wp2
   go_ret
   exact ⟨by rw [tiIdx_none (fun j hj => HP.out j (by omega))]; rfl, HB.out⟩
theorem zero28 (w : World) : (zeroValue 28).run Try.prog w = .ok (.agg #[.int .i64 0, .int .i64 0, .int .i64 0, .int .i64 0, .int .i64 0]) w := by kernel_rfl
theorem run_clear5 {P : Program} (w : World) (t e ty : TypeId) (ht : P.underlying t = some (.slice e)) (hv : ∀ w, (zeroValue e).run P w = .ok (.agg #[.int .i64 0, .int .i64 0, .int .i64 0, .int .i64 0, .int .i64 0]) w) (b o n c : Nat) (hn : 0 < n)
  (hc : ∀ j, j < n * 5 → (w.cell? ⟨b, o + j, none⟩).isSome = true) (hf : ∀ j, j < n * 5 → w.frozen? ⟨b, o + j, none⟩ = false) :
  (Builtin.clear_ #[t] ty #[.slice (some ⟨b, o, none⟩) n c]).run P w = .ok (.tuple #[]) (w.setCells b o (List.replicate (n * 5) (.int .i64 0))) := by
 have hst := run_storeCells_cells (P := P) b o (List.replicate (n * 5) (Value.int .i64 0)) 0 w (by simpa using hc) (by simpa using hf) (by intro v hv'; rw [List.eq_of_mem_replicate hv']; rfl)
 simp only [Nat.add_zero] at hst
 obtain ⟨m, rfl⟩ : ∃ m, n = m + 1 := ⟨n - 1, by omega⟩
 simp [Builtin.clear_, run_underlying ht, hv, zeroCells5, hst]
theorem TR.set_blk {W : World} {g : Nat} {cur : Array Value} {xs : List S28} (hb : W.heap[g]? = some (.cells cur 28 (0, 0))) (h : TR cur xs) (i : Nat) (hi : i < xs.length) (v : S28) :
  ∃ cur', (((((W.setCell ⟨g, i * 5, none⟩ (.int .i64 v.f0)).setCell ⟨g, i * 5 + 1, none⟩ (.int .i64 v.f1)).setCell ⟨g, i * 5 + 2, none⟩ (.int .i64 v.f2)).setCell ⟨g, i * 5 + 3, none⟩ (.int .i64 v.f3)).setCell ⟨g, i * 5 + 4, none⟩ (.int .i64 v.f4)).heap[g]? = some (.cells cur' 28 (0, 0)) ∧ cur'.size = cur.size ∧ TR cur' (xs.set i v) :=
 ⟨_, blk_set (blk_set (blk_set (blk_set (blk_set hb _ _) _ _) _ _) _ _) _ _, by simp only [Array.size_setIfInBounds], h.set i hi v⟩
theorem grown_at (W : World) (g o : Nat) (v : Value) : W.grownBy (W.setCell ⟨g, o, none⟩ v) (some g) := PxR.grown_set W ⟨g, o, none⟩ v
theorem grown5 (W : World) (g a0 a1 a2 a3 a4 : Nat) (v0 v1 v2 v3 v4 : Value) : W.grownBy (((((W.setCell ⟨g, a0, none⟩ v0).setCell ⟨g, a1, none⟩ v1).setCell ⟨g, a2, none⟩ v2).setCell ⟨g, a3, none⟩ v3).setCell ⟨g, a4, none⟩ v4) (some g) := by
 refine World.grownBy.trans ?_ (grown_at _ g a4 v4)
 refine World.grownBy.trans ?_ (grown_at _ g a3 v3)
 refine World.grownBy.trans ?_ (grown_at _ g a2 v2)
 refine World.grownBy.trans ?_ (grown_at _ g a1 v1)
 exact grown_at _ g a0 v0
theorem set_mid {α : Type} (a b c : List α) (x y : α) : (a ++ (y :: b) ++ x :: c).set a.length x = (a ++ [x]) ++ (b ++ [x]) ++ c := by simp
set_option maxHeartbeats 8000000 in
set_option maxRecDepth 100000 in
theorem tiDelete.calls (capv : Value) (p : S28 → Bool) (g c0 : Nat) (cur0 : Array Value) (l0 : List S28) (w : World) (hg : w.heap[g]? = some (.cells cur0 28 (0, 0))) (ht : TR cur0 l0) (hs : cur0.size = c0 * 5) (hl : l0.length ≤ c0) (hm : c0 ≤ maxLen)
  (hF : ∀ (W : World) (x : S28), w.grownBy W (some g) → Calls Try.prog 91 #[.agg #[.int .i64 x.f0, .int .i64 x.f1, .int .i64 x.f2, .int .i64 x.f3, .int .i64 x.f4], capv] W fun e W' => e = .returned (.bool (p x)) ∧ Below W.heap.size W W') :
  Calls Try.prog 89 #[.slice (some ⟨g, 0, none⟩) l0.length c0, .func (.func 91) #[] #[capv]] w fun e w' => e = .returned (.slice (some ⟨g, 0, none⟩) (l0.filter fun x => !p x).length c0) ∧ w.grownBy w' (some g) ∧ ∃ cur, w'.heap[g]? = some (.cells cur 28 (0, 0)) ∧ cur.size = c0 * 5 ∧ TR cur (l0.filter fun x => !p x) := by
 have hu := Try.underlying28
 have hR : Kd.R k28 28 w 0 (fun _ => True) (.slice (some ⟨g, 0, none⟩) l0.length c0) l0 := R_of_TR (Nat.zero_le _) trivial hg hl hm hs ht
 have hr0 := (Kd.R_reads' hR).2.2
 have hmax : l0.length ≤ 9223372036854775807 := Kd.C_max hr0
 have HI := Lib.hid (tiIndex.calls capv p (some ⟨g, 0, none⟩) c0 l0 w hr0 (fun W x hW => hF W x (grown_of_below hW _)))
 clear hR hr0
 have HF := Lib.hid hF
 have HT := Lib.hid ht
 have HS := Lib.hid hs
 have HG := Lib.hid hg
 have HL := Lib.hid hl
 clear hF ht hs hg hl hm
 cases hx : l0.findIdx? p with
 | none =>
  have e1 : tiIdx p l0 = -1 := by unfold tiIdx; rw [hx]
  have e2 : (l0.filter fun x => !p x) = l0 := by
   rw [List.filter_eq_self]; intro a ha
   have := List.findIdx?_eq_none_iff.1 hx a ha
   simp [this]
  rw [e2]
  rw [e1] at HI
  clear e1 e2 hx
  go_enter Try.func89, Try.ntmps89
  go_wp2_with (go_at_call 98; refine HI.out.mono ?_; rintro e w1 ⟨rfl, hb1⟩; have HB1 := Lib.hid hb1; clear hb1)
  go_ret
  exact ⟨rfl, grown_of_below HB1.out _, cur0, blk_below HG.out HB1.out, HS.out, HT.out⟩
 | some k0 =>
  obtain ⟨hk, hpk, hall⟩ := List.findIdx?_eq_some_iff_getElem.1 hx
  have e1 : tiIdx p l0 = (k0 : Int) := by unfold tiIdx; rw [hx]
  rw [e1] at HI
  clear e1 hx
  obtain ⟨pre, y, suf, rfl, rfl⟩ : ∃ pre y suf, l0 = pre ++ y :: suf ∧ pre.length = k0 := ⟨l0.take k0, l0[k0], l0.drop (k0 + 1), by rw [← List.drop_eq_getElem_cons hk, List.take_append_drop], by simp; omega⟩
  have hpy : p y = true := by simpa using hpk
  have hpre : ∀ x ∈ pre, p x = false := fun x hx => by
   obtain ⟨j, hj, rfl⟩ := List.getElem_of_mem hx
   have := hall j hj
   rw [List.getElem_append_left hj] at this
   simpa using this
  have hfil : (pre ++ y :: suf).filter (fun x => !p x) = pre ++ suf.filter (fun x => !p x) := by
   rw [List.filter_append, List.filter_cons_of_neg (by simp [hpy])]
   rw [List.filter_eq_self.2 (fun x hx => by simp [hpre x hx])]
  have hlen : (pre ++ y :: suf).length = pre.length + 1 + suf.length := by simp; omega
  clear hk hpk hall hpy hpre
  obtain ⟨fl, hfl⟩ : ∃ fl, (pre ++ y :: suf).filter (fun x => !p x) = fl := ⟨_, rfl⟩
  rw [hfl] at hfil
  rw [hfl]
  clear hfl
  have HFIL := Lib.hid hfil
  have hne : ((pre.length : Int) == -1) = false := beq_eq_false_iff_ne.2 (by omega)
  clear hfil
  generalize hn : (pre ++ y :: suf).length = n at *
  have HN := Lib.hid hn
  have HLEN := Lib.hid hlen
  have H0 : Hid (TR cur0 (pre ++ (y :: ([] : List S28)) ++ suf)) := Lib.hid (by simpa using HT.out)
  have hpl : pre.length + 1 ≤ n := by omega
  clear hn hlen
  go_enter Try.func89, Try.ntmps89
  go_wp2_with (go_at_call 98; refine HI.out.mono ?_; rintro e w1 ⟨rfl, hb1⟩; have HB1 := Lib.hid hb1; clear hb1)
  go_loopg [5, 6, 7] n (fun gg s5 s6 _ wr => ∃ (kept junk rest : List S28) (z : S28) (cur : Array Value), s5 = .int .i64 kept.length ∧ s6 = .int .i64 ((kept.length + 1 + junk.length : Nat) : Int) ∧ rest.length ≤ gg ∧ Aside0 (fl = kept ++ rest.filter (fun x => !p x) ∧ n = kept.length + 1 + junk.length + rest.length) ∧ Aside0 (wr.heap[g]? = some (.cells cur 28 (0, 0)) ∧ cur.size = c0 * 5 ∧ TR cur (kept ++ (z :: junk) ++ rest)) ∧ Aside0 (w.grownBy wr (some g)))
  case atStart => exact ⟨pre, [], suf, y, cur0, rfl, by go_num, by have := HLEN.out; omega, ⟨HFIL.out, by have := HLEN.out; simpa using this⟩, ⟨blk_below HG.out HB1.out, HS.out, H0.out⟩, ⟨grown_of_below HB1.out _⟩⟩
  case round =>
   obtain ⟨kept, junk, rest, z, cur, rfl, rfl, hgg, HA, HC, HW⟩ := hrel
   have hA := HA.out.2
   have hj0 : (0 : Int) ≤ ((kept.length + 1 + junk.length : Nat) : Int) := by omega
   have hi0 : (0 : Int) ≤ ((kept.length : Nat) : Int) := by omega
   cases rest with
   | cons x rest =>
    have hjn : ((kept.length + 1 + junk.length : Nat) : Int) < (n : Int) := by simp at hA; omega
    have hin : ((kept.length : Nat) : Int) < (n : Int) := by omega
    obtain ⟨t0, t1, t2, t3, t4⟩ := HC.out.2.2 (kept.length + 1 + junk.length) x (by
     rw [List.getElem?_append_right (by simp; omega)]
     simp only [List.length_append, List.length_cons]
     rw [show kept.length + 1 + junk.length - (kept.length + (junk.length + 1)) = 0 by omega]; rfl)
    have hb0 := HC.out.1
    have c0' : wr.cell? ⟨g, (kept.length + 1 + junk.length) * 5, none⟩ = some (.int .i64 x.f0) := (blk_cell hb0 _).trans t0
    have c1' : wr.cell? ⟨g, (kept.length + 1 + junk.length) * 5 + 1, none⟩ = some (.int .i64 x.f1) := (blk_cell hb0 _).trans t1
    have c2' : wr.cell? ⟨g, (kept.length + 1 + junk.length) * 5 + 2, none⟩ = some (.int .i64 x.f2) := (blk_cell hb0 _).trans t2
    have c3' : wr.cell? ⟨g, (kept.length + 1 + junk.length) * 5 + 3, none⟩ = some (.int .i64 x.f3) := (blk_cell hb0 _).trans t3
    have c4' : wr.cell? ⟨g, (kept.length + 1 + junk.length) * 5 + 4, none⟩ = some (.int .i64 x.f4) := (blk_cell hb0 _).trans t4
    clear t0 t1 t2 t3 t4 hA hb0
    generalize hj : kept.length + 1 + junk.length = j at *
    have HJ := Lib.hid hj
    clear hj
    have HP := Lib.hid (fun (W : World) (hW : wr.grownBy W (some g)) => HF.out W x (HW.out.trans hW))
    obtain ⟨z0, z1, z2, z3, z4⟩ := HC.out.2.2 kept.length z (by rw [List.append_assoc, List.getElem?_append_right (Nat.le_refl _), Nat.sub_self]; rfl)
    have HZ := Lib.hid z0
    have HZ1 := Lib.hid z1
    have HZ2 := Lib.hid z2
    have HZ3 := Lib.hid z3
    have HZ4 := Lib.hid z4
    clear z0 z1 z2 z3 z4
    cases hb : p x with
    | false =>
     rw [hb] at HP
     have HPX := Lib.hid hb
     clear hb
     go_wp2_with (go_at_call 91; refine (HP.out _ (World.grownBy_alloc wr _ _)).mono ?_; rintro e w2 ⟨rfl, hb2⟩; have hg2 := blk_below (blk_alloc HC.out.1 _) hb2; have hx2 := blk_below (blk_new wr _) hb2; have d0 : w2.cell? ⟨wr.heap.size, 0, none⟩ = some (.int .i64 x.f0) := (blk_cell hx2 0).trans rfl; have d1 : w2.cell? ⟨wr.heap.size, 1, none⟩ = some (.int .i64 x.f1) := (blk_cell hx2 1).trans rfl; have d2 : w2.cell? ⟨wr.heap.size, 2, none⟩ = some (.int .i64 x.f2) := (blk_cell hx2 2).trans rfl; have d3 : w2.cell? ⟨wr.heap.size, 3, none⟩ = some (.int .i64 x.f3) := (blk_cell hx2 3).trans rfl; have d4 : w2.cell? ⟨wr.heap.size, 4, none⟩ = some (.int .i64 x.f4) := (blk_cell hx2 4).trans rfl; have e0 : w2.cell? ⟨g, kept.length * 5, none⟩ = some (.int .i64 z.f0) := (blk_cell hg2 _).trans HZ.out; have e1 : w2.cell? ⟨g, kept.length * 5 + 1, none⟩ = some (.int .i64 z.f1) := (blk_cell hg2 _).trans HZ1.out; have e2 : w2.cell? ⟨g, kept.length * 5 + 2, none⟩ = some (.int .i64 z.f2) := (blk_cell hg2 _).trans HZ2.out; have e3 : w2.cell? ⟨g, kept.length * 5 + 3, none⟩ = some (.int .i64 z.f3) := (blk_cell hg2 _).trans HZ3.out; have e4 : w2.cell? ⟨g, kept.length * 5 + 4, none⟩ = some (.int .i64 z.f4) := (blk_cell hg2 _).trans HZ4.out; have f0 : w2.frozen? ⟨g, kept.length * 5, none⟩ = false := blk_frozen hg2 _; have f1 : w2.frozen? ⟨g, kept.length * 5 + 1, none⟩ = false := blk_frozen hg2 _; have f2 : w2.frozen? ⟨g, kept.length * 5 + 2, none⟩ = false := blk_frozen hg2 _; have f3 : w2.frozen? ⟨g, kept.length * 5 + 3, none⟩ = false := blk_frozen hg2 _; have f4 : w2.frozen? ⟨g, kept.length * 5 + 4, none⟩ = false := blk_frozen hg2 _; have HG2 := Lib.hid hg2; have HB2 := Lib.hid hb2; clear hg2 hx2 hb2)
     go_roundg rest.length
     case measure => simp at hgg; omega
     case rel =>
      obtain ⟨z', junk', hzj⟩ : ∃ z' junk', junk ++ [x] = z' :: junk' := by cases junk with | nil => exact ⟨x, [], rfl⟩ | cons a b => exact ⟨a, b ++ [x], rfl⟩
      have hzl := congrArg List.length hzj
      simp only [List.length_append, List.length_cons, List.length_nil] at hzl
      have hjj := HJ.out
      obtain ⟨cur', hbs, hcs, hts⟩ := TR.set_blk HG2.out HC.out.2.2 kept.length (by simp) x
      rw [set_mid, hzj] at hts
      have hgr := HW.out.trans (((World.grownBy_alloc wr _ (some g)).trans (grown_of_below HB2.out _)).trans (grown5 w2 g (kept.length * 5) (kept.length * 5 + 1) (kept.length * 5 + 2) (kept.length * 5 + 3) (kept.length * 5 + 4) (.int .i64 x.f0) (.int .i64 x.f1) (.int .i64 x.f2) (.int .i64 x.f3) (.int .i64 x.f4)))
      refine ⟨kept ++ [x], junk', rest, z', cur', ?_, ?_, Nat.le_refl _, ⟨?_, ?_⟩, ⟨hbs, hcs.trans HC.out.2.1, hts⟩, ⟨hgr⟩⟩
      ·exact congrArg (Value.int .i64) (by rw [List.length_append]; rfl)
      ·refine congrArg (Value.int .i64) ?_
       rw [List.length_append, ← hjj]
       simp only [List.length_cons, List.length_nil]
       omega
      ·rw [HA.out.1, List.filter_cons_of_pos (by simp [HPX.out]), List.append_assoc]; rfl
      ·have := HA.out.2; simp at this ⊢; omega
    | true =>
     rw [hb] at HP
     have HPX := Lib.hid hb
     clear hb
     go_wp2_with (go_at_call 91; refine (HP.out _ (World.grownBy_alloc wr _ _)).mono ?_; rintro e w2 ⟨rfl, hb2⟩; have HB2 := Lib.hid hb2; clear hb2)
     go_roundg rest.length
     case measure => simp at hgg; omega
     case rel =>
      have hjj := HJ.out
      refine ⟨kept, junk ++ [x], rest, z, cur, rfl, ?_, Nat.le_refl _, ⟨?_, ?_⟩, ⟨blk_below (blk_alloc HC.out.1 _) HB2.out, HC.out.2.1, by have := HC.out.2.2; simpa using this⟩, ⟨HW.out.trans ((World.grownBy_alloc wr _ (some g)).trans (grown_of_below HB2.out _))⟩⟩
      ·congr 1; simp; omega
      ·rw [HA.out.1, List.filter_cons_of_neg (by simp [HPX.out])]
      ·have := HA.out.2; simp at this ⊢; omega
   | nil =>
    have hA2 : n = kept.length + 1 + junk.length := by simpa using hA
    clear hA
    have hin : ((kept.length : Nat) : Int) < (n : Int) := by omega
    have hnn : ¬ ((kept.length + 1 + junk.length : Nat) : Int) < (n : Int) := by omega
    have HA2 := Lib.hid hA2
    generalize hj : kept.length + 1 + junk.length = j at *
    have HJ := Lib.hid hj
    clear hA2 hj
    have hlc := HL.out
    have hkc : ¬ c0 = kept.length := by omega
    have hkc2 : kept.length < c0 := by omega
    have hcl : ∀ ty, (Builtin.clear_ #[24] ty #[.slice (some ⟨g, kept.length * 5, none⟩) (n - kept.length) (c0 - kept.length)]).run Try.prog wr = .ok (.tuple #[]) (wr.setCells g (kept.length * 5) (List.replicate ((n - kept.length) * 5) (.int .i64 0))) := fun ty =>
     run_clear5 wr _ _ ty Try.underlying24 zero28 g (kept.length * 5) _ _ (by omega) (fun q hq => by
      rw [blk_cell HC.out.1, Array.getElem?_eq_getElem (by have := HC.out.2.1; omega)]; rfl) (fun q hq => blk_frozen HC.out.1 _)
    clear hlc
    go_wp2
    go_ret
    have hsz := HC.out.2.1
    obtain ⟨cur', b1, b2, b3⟩ := setCells_row (List.replicate ((n - kept.length) * 5) (Value.int .i64 0)) (kept.length * 5) wr cur HC.out.1 (by have := HL.out; simp; omega)
    obtain ⟨s1, s2, s3, s4⟩ := setCells_same g (List.replicate ((n - kept.length) * 5) (Value.int .i64 0)) (kept.length * 5) wr
    have hfk : fl = kept := by rw [HA.out.1]; simp
    rw [hfk]
    refine ⟨rfl, HW.out.trans ⟨s1, s2, s3, by rw [s4]; exact Nat.le_refl _, fun q _ hne => setCells_far _ _ q (fun e => hne (by rw [e]))⟩, cur', b1, by rw [b2]; exact hsz, fun q x hq => ?_⟩
    have hql := (List.getElem?_eq_some_iff.1 hq).1
    obtain ⟨r0, r1, r2, r3, r4⟩ := HC.out.2.2 q x (by rw [List.append_assoc, List.getElem?_append_left hql]; exact hq)
    have key : ∀ i u, i < kept.length * 5 → cur[i]? = some u → cur'[i]? = some u := by
     intro i u hi hu
     rw [← Array.getElem?_toList, b3, List.append_assoc, List.getElem?_append_left (by simp; omega), List.getElem?_take_of_lt hi]
     simpa using hu
    exact ⟨key _ _ (by omega) r0, key _ _ (by omega) r1, key _ _ (by omega) r2, key _ _ (by omega) r3, key _ _ (by omega) r4⟩
-- table_Tasks
/-- Is a task in none of a mode's? -/
def inOut (m : Int) (x : S28) : Bool := if m < 0 then true else if m ≥ 4 then true else bits .and .i64 (shr .i64 x.f4 m) 1 == 0
set_option maxHeartbeats 4000000 in
theorem inPred.calls (gm : Nat) (m : Int) (x : S28) (W : World) (hm : W.heap[gm]? = some (.cells #[.int .i64 m] 3 (0, 0))) :
  Calls Try.prog 91 #[.agg #[.int .i64 x.f0, .int .i64 x.f1, .int .i64 x.f2, .int .i64 x.f3, .int .i64 x.f4], .pointer (some ⟨gm, 0, none⟩)] W fun e W' => e = .returned (.bool (inOut m x)) ∧ Below W.heap.size W W' := by
 have c0 : W.cell? ⟨gm, 0, none⟩ = some (.int .i64 m) := (blk_cell hm 0).trans rfl
 have hlt := blk_lt hm
 have hne : ¬ gm = W.heap.size := by omega
 have hne2 : ¬ W.heap.size = gm := by omega
 clear hm
 by_cases h0 : m < 0
 ·go_enter Try.func91, Try.ntmps91
  go_wp2
  go_ret
  exact ⟨by unfold inOut; rw [if_pos h0]; rfl, below_alloc (Below.refl _ _) _⟩
 ·by_cases h4 : m ≥ 4
  ·go_enter Try.func91, Try.ntmps91
   go_wp2
   go_ret
   exact ⟨by unfold inOut; rw [if_neg (by omega), if_pos h4]; rfl, below_alloc (Below.refl _ _) _⟩
  ·have h0' : 0 ≤ m := by omega
   go_enter Try.func91, Try.ntmps91
   go_wp2
   go_ret
   exact ⟨by unfold inOut; rw [if_neg (by omega), if_neg (by omega)]; rw [shr, Nat.min_eq_left (show m.toNat ≤ IntKind.i64.bits from by show m.toNat ≤ 64; omega)]; rfl, below_alloc (Below.refl _ _) _⟩
set_option maxHeartbeats 4000000 in
set_option maxRecDepth 100000 in
theorem tiDelete_R (gm : Nat) (m : Int) {base : Nat} {ok : Nat → Prop} {v : Value} {xs : List S28} (w : World) (hR : Kd.R k28 28 w base ok v xs) (hm : w.heap[gm]? = some (.cells #[.int .i64 m] 3 (0, 0))) :
  Calls Try.prog 89 #[v, .func (.func 91) #[] #[.pointer (some ⟨gm, 0, none⟩)]] w fun e w' => ∃ v', e = .returned v' ∧ Kd.R k28 28 w' base ok v' (xs.filter fun x => !inOut m x) ∧ w.grownBy w' v.ownBlock ∧ ∀ b, v.ownBlock = some b → base ≤ b := by
 rcases TR_of_R hR with ⟨rfl, rfl⟩ | ⟨g, cap, cur, rfl, hb, hok, hg, hl, hmx, hs, ht⟩
 ·have HI := Lib.hid (tiIndex.calls (.pointer (some ⟨gm, 0, none⟩)) (inOut m) none 0 ([] : List S28) w (Kd.C_nil _ _) (fun W x hW => inPred.calls gm m x W (blk_below hm hW)))
  clear hR hm
  go_enter Try.func89, Try.ntmps89
  go_wp2_with (go_at_call 98; refine HI.out.mono ?_; rintro e w1 ⟨rfl, hb1⟩; have HB1 := Lib.hid hb1; clear hb1)
  go_ret
  exact ⟨_, rfl, Kd.R_nil _ _ _ _ _, grown_of_below HB1.out _, fun b hb => by cases hb⟩
 ·have hgm : some gm ≠ some g := fun e => by
   cases e
   rw [hm] at hg
   injection hg with hg
   injection hg with _ hg
   exact absurd hg (by decide)
  refine (tiDelete.calls (.pointer (some ⟨gm, 0, none⟩)) (inOut m) g cap cur xs w hg ht hs hl hmx (fun W x hW => inPred.calls gm m x W (blk_grown hm hW hgm))).mono ?_
  rintro e w' ⟨rfl, hgr, cur', h1, h2, h3⟩
  have := List.length_filter_le (fun x => !inOut m x) xs
  exact ⟨_, rfl, R_of_TR hb hok h1 (by omega) hmx h2 h3, hgr, fun b hb' => by cases hb'; exact hb⟩
def table_In.f (k : Nat) (l0_0 : List S54) (a0_1 : Int) (a1 : Int) : Option (List S28) := (table_Tasks.f k l0_0 a0_1).bind fun t => some (t.filter fun x => !inOut a1 x)
theorem table_In.mono : ∀ a0 a1 a2 k, LeO (table_In.f k a0 a1 a2) (table_In.f (k + 1) a0 a1 a2) := fun a0 a1 a2 k => LeO.bind (table_Tasks.mono _ _ k) (fun _ => LeO.refl _)
set_option maxHeartbeats 8000000 in
set_option maxRecDepth 100000 in
theorem table_In.calls (k : Nat) (A0_0 : Option Addr) (c0_0 : Nat) (l0_0 : List S54) (a0_1 : Int) (a1 : Int) (r : List S28) (w : World) (hr0_0 : Kd.C k54 w A0_0 l0_0.length l0_0) (hc0_0 : l0_0.length ≤ c0_0) (h : table_In.f k l0_0 a0_1 a1 = some r) :
  Calls Try.prog 67 #[.agg #[.slice A0_0 l0_0.length c0_0, .int .i64 a0_1], .int .i64 a1] w fun e w' => ∃ v0_ : Value, e = .returned (v0_) ∧ Kd.R k28 28 w' w.heap.size (fun _ => True) v0_ r ∧ Below w.heap.size w w' := by
 have hu52 := Try.underlying52
 unfold table_In.f at h
 obtain ⟨t, ht, h1⟩ := Option.bind_eq_some_iff.mp h
 obtain rfl := Option.some.inj h1
 have HT := Lib.hid ht
 have HR0 := Lib.hid hr0_0
 have HC0 := Lib.hid hc0_0
 clear h h1 ht hr0_0 hc0_0
 have HB := Lib.hid (Below.refl w.heap.size w)
 go_enter Try.func67, Try.ntmps67
 go_wp2_with (first
  | ((with_reducible refine gate_dst (N := 2) rfl ?_); refine box_event ?hg (N := 2) ?hd (cs := #[.slice A0_0 l0_0.length c0_0, .int .i64 a0_1]) (t := 52) ?hr ?_; (case hd => rfl); (case hg => rfl); (case hr => first | (go_simp; done) | (go_simp; rfl)); intro gt hg w2 hbox hb; have n0_ := Lib.hid (below_step HB.out hb); have n1_ := Lib.hid hbox; clear HB; have HB := n0_; have BKT := n1_; clear n0_ n1_; clear hb hbox hg; have hcz0 : w2.cell? ⟨gt, 0, none⟩ = some (.slice A0_0 l0_0.length c0_0) := (blk_cell BKT.out 0).trans rfl; have hcz1 : w2.cell? ⟨gt, 1, none⟩ = some (.int .i64 a0_1) := (blk_cell BKT.out 1).trans rfl)
  | ((with_reducible refine gate_dst (N := 3) rfl ?_); refine box_event ?hg (N := 3) ?hd (cs := #[.int .i64 a1]) (t := 3) ?hr ?_; (case hd => rfl); (case hg => rfl); (case hr => first | (go_simp; done) | (go_simp; rfl)); intro gm hg w3 hbox hb; have n0_ := Lib.hid (below_step HB.out hb); have n1_ := Lib.hid hbox; have hcy0 := (blk_cell (blk_below BKT.out hb) 0).trans rfl; have hcy1 := (blk_cell (blk_below BKT.out hb) 1).trans rfl; clear HB hcz0 hcz1; have HB := n0_; have BKM := n1_; clear n0_ n1_; clear hb hbox hg)
  | (go_at_call 90; refine (table_Tasks.calls k A0_0 c0_0 l0_0 a0_1 t _ (Kd.C_below HR0.out HB.out) HC0.out HT.out).mono ?_; rintro e w4 ⟨v4, rfl, hv, hb⟩; have n0_ := Lib.hid (below_step HB.out hb); have n1_ := Lib.hid (blk_below BKM.out hb); have n2_ := Lib.hid (Kd.R_lower hv (below_size HB.out)); clear HB BKM hv hb; have HB := n0_; have BKM := n1_; have HV := n2_; clear n0_ n1_ n2_)
  | (go_at_call 89; refine (tiDelete_R gm a1 w4 HV.out BKM.out).mono ?_; rintro e w5 ⟨v5, rfl, hv, hgr, hbb⟩; have n0_ := Lib.hid (Below.grown HB.out hgr (below_size HB.out) hbb); have HV5 := Lib.hid hv; clear HB hv hgr hbb; have HB := n0_; clear n0_))
 go_ret
 exact ⟨_, rfl, HV5.out, HB.out⟩

end Go.Proofs.Ytmgmpifbhjoijaa.PProbeReports
