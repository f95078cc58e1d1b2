-- Made by px.py (a program of this session, over the kit's printer) out of the translation. Not trusted: Lean checks it.
import Derived.Test.YthkagoomlmgcdaaPJudgeFitsx0
import Derived.Test.YthkagoomlmgcdaaPJudgeFitsx2
import Derived.Test.YthkagoomlmgcdaaPJudgeFitsx6
namespace Go.Proofs.Ythkagoomlmgcdaa.PJudgeFits
open Go.RowKit Go.Proofs.YthkagoomlmgcdaaW.PrintWords Go.Proofs.YthkagoomlmgcdaaW.PrintLast Go.Proofs.YthkagoomlmgcdaaW.PrintMore
attribute [local go_sem] max2_int min2_int max_two min_two max_three min_three max_four min_four   -- for this text's walks alone
set_option linter.unusedVariables false
set_option linter.unusedSimpArgs false

/-! ### param_Period: function 29 (by hand) -/
/-- Gcd makes nothing. -/
theorem gcd_quiet (k : Nat) (a0 : Int) (a1 : Int) (r : Int) (w : World) (h : param_Gcd.f k a0 a1 = some r) :
  Calls Try.prog 46 #[.int .i64 a0, .int .i64 a1] w fun e w' => e = .returned (.int .i64 r) ∧ ∃ n, w' = w.drewN n := by
 have H : (param_Gcd.l0 k a0 a1) = some r := h
 clear h
 have H' := Aside0.mk H
 clear H
 go_enter Try.func46, Try.ntmps46
 go_wp2
 go_loopg [0, 1] k (fun kq v0 v1 w' => ∃ (x0_1 : Int) (x1_1 : Int), v0 = .int .i64 x0_1 ∧ v1 = .int .i64 x1_1 ∧ Aside0 (param_Gcd.l0 kq x0_1 x1_1 = some r) ∧ Aside0 (kq ≤ k) ∧ Aside0 (∃ n, w' = w.drewN n))
 case atStart => exact ⟨a0, a1, rfl, rfl, H', ⟨Nat.le_refl _⟩, ⟨0, rfl⟩⟩
 case round =>
  clear H'
  obtain ⟨x0_1, x1_1, rfl, rfl, HA, HK1, HB⟩ := hrel
  cases gk with
  | zero => exact absurd HA.out (by simp [param_Gcd.l0])
  | succ k1 =>
   have H := HA.out
   clear HA
   simp only [param_Gcd.l0] at H
   by_cases c3 : x1_1 = 0
   ·rw [if_pos c3] at H
    have c3b0 : (x1_1 == 0) = true := beq_iff_eq.mpr c3
    have c3b1 : (x1_1 != 0) = false := bne_eq_false_iff_eq.mpr c3
    clear c3
    obtain ⟨ji4, hji4⟩ : ∃ j_ : Int, (mx x0_1 (wrap64 (-x0_1))) = j_ := ⟨_, rfl⟩
    replace H : (some ji4) = some r := by rw [hji4] at H; exact H
    have hji4_ : (if x0_1 < (wrap64 (-x0_1)) then (wrap64 (-x0_1)) else x0_1) = ji4 := hji4
    obtain rfl := Option.some.inj H
    go_wp2
    go_ret
    exact ⟨by first | rfl | (simp only [← hji4]; rfl), HB.out⟩
   ·rw [if_neg c3] at H
    have c3b0 : (x1_1 == 0) = false := beq_eq_false_iff_ne.mpr c3
    have c3b1 : (x1_1 != 0) = true := bne_iff_ne.mpr c3
    have H' := Aside0.mk H
    clear H
    go_wp2
    go_quiet (fail)
    try go_wp2
    go_roundg k1
    case measure => have := HK1.out; omega
    case rel => exact ⟨x1_1, Int.tmod x0_1 x1_1, rfl, rfl, H', ⟨by have := HK1.out; omega⟩, ⟨by obtain ⟨n0, hn0⟩ := HB.out; rw [hn0]; exact ⟨_, World.drewN_drewN _ _ _⟩⟩⟩
set_option maxHeartbeats 4000000 in
theorem times.calls (k g : Nat) (m n gv : Int) (w : World) (hc : w.cell? ⟨g, 0, none⟩ = some (.int .i64 m)) (hf : w.frozen? ⟨g, 0, none⟩ = false) (hg : param_Gcd.f k m n = some gv) (hne : gv ≠ 0) :
  Calls Try.prog 45 #[.int .i64 n, .pointer (some ⟨g, 0, none⟩)] w fun e w' => e = .returned (.bool (decide (wrap64 (m * wrap64 (Int.tdiv n gv)) ≤ 1048576))) ∧ ∃ q, w' = (w.setCell ⟨g, 0, none⟩ (.int .i64 (wrap64 (m * wrap64 (Int.tdiv n gv))))).drewN q := by
 have H := Lib.hid hg
 have hb0 : (gv == 0) = false := beq_eq_false_iff_ne.mpr hne
 have hb1 : (gv != 0) = true := bne_iff_ne.mpr hne
 clear hg
 go_enter Try.func45, Try.ntmps45
 go_wp2_with fail
 go_region_with (go_at_call 46; refine (gcd_quiet k _ _ gv _ H.out).mono ?_; rintro e w1 ⟨rfl, q1, rfl⟩)
 all_goals go_wp2
 all_goals go_ret
 all_goals exact ⟨rfl, 1 + q1, rfl⟩
theorem pw_below_drewN' {B : Nat} {w W : World} (h : Below B w W) (n : Nat) : Below B w (W.drewN n) := ⟨h.os, h.tape, h.output, h.size, h.block⟩
/-- .. said of a variable in memory that is a block of its own. -/
theorem times.calls2 (k g : Nat) (m n gv m' : Int) (w : World) (hG : w.heap[g]? = some (.cells #[.int .i64 m] 2 (0, 0))) (hg : param_Gcd.f k m n = some gv) (hne : gv ≠ 0) (hm : wrap64 (m * wrap64 (Int.tdiv n gv)) = m') :
  Calls Try.prog 45 #[.int .i64 n, .pointer (some ⟨g, 0, none⟩)] w fun e w' => e = .returned (.bool (decide (m' ≤ 1048576))) ∧ w'.heap[g]? = some (.cells #[.int .i64 m'] 2 (0, 0)) ∧ ∀ B, B ≤ g → Below B w w' := by
 refine (times.calls k g m n gv w ((blk_cell hG 0).trans rfl) (blk_frozen hG 0) hg hne).mono ?_
 rintro e w' ⟨rfl, q, rfl⟩
 rw [hm]
 refine ⟨rfl, ?_, fun B hB => ?_⟩
 ·have := blk_set hG 0 (.int .i64 m')
  simpa using this
 ·exact pw_below_drewN' ((Below.refl B w).setCell (p := ⟨g, 0, none⟩) hB _) q
def period.go (k : Nat) : List S31 → Int → Option (Int × Int)
 | [], m => some (m, 0)
 | s :: l, m => (param_Gcd.f k m s.f3).bind fun g => if g = 0 then none else if wrap64 (m * wrap64 (Int.tdiv s.f3 g)) ≤ 1048576 then period.go k l (wrap64 (m * wrap64 (Int.tdiv s.f3 g))) else some (0, 16)
theorem period.go_mono (k : Nat) : ∀ l m, LeO (period.go k l m) (period.go (k + 1) l m)
 | [], m => LeO.refl _
 | s :: l, m => by
  unfold period.go
  refine LeO.bind (param_Gcd.mono _ _ k) (fun g => ?_)
  exact LeO.ite (LeO.none _) (LeO.ite (period.go_mono k l _) (LeO.refl _))
def param_Period.f (k : Nat) (l0 : List S31) : Option (Int × Int) := (param_Row.f l0).bind fun b => if b = true then period.go k l0 1 else some (0, 1)
theorem param_Period.mono : ∀ a0 k, LeO (param_Period.f k a0) (param_Period.f (k + 1) a0) := by
 intro a0 k
 unfold param_Period.f
 exact LeO.bind (LeO.refl _) (fun b => LeO.ite (period.go_mono k _ _) (LeO.refl _))
theorem drop_at {l0 : List S31} {i : Nat} (h : i < l0.length) : l0.drop i = rd_T31 l0 (i : Int) :: l0.drop (i + 1) := by
 rw [List.drop_eq_getElem_cons h]; simp [rd_T31, h]
set_option maxHeartbeats 4000000 in
set_option maxRecDepth 100000 in
theorem param_Period.calls (k : Nat) (A0 : Option Addr) (c0 : Nat) (l0 : List S31) (r1 r2 : Int) (w : World) (hr0 : Kd.C k31 w A0 l0.length l0) (hc0 : l0.length ≤ c0) (h : param_Period.f k l0 = some (r1, r2)) :
  Calls Try.prog 29 #[.slice A0 l0.length c0] w fun e w' => e = .returned (.tuple #[.int .i64 r1, .int .i64 r2]) ∧ Below w.heap.size w w' := by
 have hu := Try.underlying31
 have hmax : l0.length ≤ 9223372036854775807 := Kd.C_max hr0
 unfold param_Period.f at h
 obtain ⟨b, hb, h⟩ := Option.bind_eq_some_iff.mp h
 have HR := Lib.hid (param_Row.calls A0 c0 l0 b w hr0 hc0 hb)
 have HR0 := Aside0.mk hr0
 have HC0 := Aside0.mk hc0
 clear hr0 hc0 hb
 cases b with
 | false =>
  have HE := Lib.hid (Option.some.inj (show some ((0 : Int), (1 : Int)) = some (r1, r2) from h))
  clear h
  go_enter Try.func29, Try.ntmps29
  go_wp2
  go_step3
  go_wp2_with (go_at_call 31; refine HR.out.mono ?_; rintro e w1 ⟨rfl, hb1⟩; have HB1 := Aside0.mk hb1; clear hb1)
  try rw [Exit.noGoto_ret]
  go_ret2
  exact ⟨by cases HE.out; rfl, HB1.out⟩
 | true =>
  have HG0 := Lib.hid (show period.go k l0 1 = some (r1, r2) from h)
  clear h
  go_enter Try.func29, Try.ntmps29
  go_wp2
  go_step3
  go_wp2_with (go_at_call 31; refine HR.out.mono ?_; rintro e w1 ⟨rfl, hb1⟩; have HB1 := Aside0.mk hb1; clear hb1)
  go_step3
  go_wp2
  have hg0 : (w1.alloc (.cells #[.int .i64 1] 2)).heap[w1.heap.size]? = some (.cells #[.int .i64 1] 2 (0, 0)) := by simpa using heap_alloc_new w1 _
  have HS := Lib.hid (HB1.out.size : w.heap.size ≤ w1.heap.size)
  have HBA := Aside0.mk (below_alloc HB1.out (.cells #[.int .i64 1] 2))
  generalize hgg : w1.heap.size = g at hg0 HS ⊢
  have HGG := Lib.hid hgg
  clear hgg
  obtain ⟨wa, hwa⟩ : ∃ wa, w1.alloc (.cells #[.int .i64 1] 2) = wa := ⟨_, rfl⟩
  rw [hwa] at hg0 HBA ⊢
  clear hwa HB1
  have HG1 := Lib.hid hg0
  clear hg0
  go_loopw [6, 8, 15] (fun v6 _ v15 wr => ∃ (i : Nat) (m : Int), v6 = .int .i64 0 ∧ i ≤ l0.length ∧ v15 = .int .i64 i ∧ Hid (wr.heap[g]? = some (.cells #[.int .i64 m] 2 (0, 0))) ∧ Hid (period.go k (l0.drop i) m = some (r1, r2)) ∧ Aside0 (Below w.heap.size w wr)) (fun _ _ v15 _ => l0.length - (intOf v15).toNat)
  case atStart => exact ⟨0, 1, rfl, Nat.zero_le _, rfl, HG1, HG0, HBA⟩
  case round =>
   obtain ⟨i, m, rfl, hi, rfl, HG, HP, HB⟩ := hrel
   by_cases hlt : i < l0.length
   ·have p0 : (0 : Int) ≤ (i : Int) := by omega
    have q0 : (i : Int) < (l0.length : Int) := by omega
    obtain ⟨ad, e0, hx0, hx1, hx2, hx3, hx4⟩ := at_T31 HR0.out i p0 q0
    cases e0
    replace hx0 := (HB.out.cell (World.block_lt_of_cell? w _ hx0)).trans hx0
    replace hx1 := (HB.out.cell (World.block_lt_of_cell? w _ hx1)).trans hx1
    replace hx2 := (HB.out.cell (World.block_lt_of_cell? w _ hx2)).trans hx2
    replace hx3 := (HB.out.cell (World.block_lt_of_cell? w _ hx3)).trans hx3
    replace hx4 := (HB.out.cell (World.block_lt_of_cell? w _ hx4)).trans hx4
    simp only [Int.toNat_natCast] at hx0 hx1 hx2 hx3 hx4
    have hp := HP.out
    rw [drop_at hlt] at hp
    unfold period.go at hp
    obtain ⟨gv, hgv, hp⟩ := Option.bind_eq_some_iff.mp hp
    by_cases hne : gv = 0
    ·rw [if_pos hne] at hp; cases hp
    rw [if_neg hne] at hp
    obtain ⟨m', hm'⟩ : ∃ m', wrap64 (m * wrap64 (Int.tdiv (rd_T31 l0 (i : Int)).f3 gv)) = m' := ⟨_, rfl⟩
    rw [hm'] at hp
    have HT := fun (W : World) (hW : W.heap[g]? = some (.cells #[.int .i64 m] 2 (0, 0))) => times.calls2 k g m _ gv m' W hW hgv hne hm'
    have HT' := Lib.hid HT
    have hgl : g < wr.heap.size := (Array.getElem?_eq_some_iff.1 HG.out).1
    clear HT hgv hm' hne HP
    by_cases hle : m' ≤ 1048576
    ·rw [if_pos hle] at hp
     have HP' := Lib.hid hp
     have hd : decide (m' ≤ 1048576) = true := decide_eq_true hle
     clear hp hle
     go_wp2_with (go_at_call 45; refine (HT'.out _ ((Below.heap_alloc _ _ g hgl).trans HG.out)).mono ?_; rintro e w2 ⟨rfl, hg2, hb2⟩; have HG2 := Lib.hid hg2; have HB2 := Aside0.mk (Below.trans (below_alloc HB.out _) (hb2 _ (by have := HS.out; omega))); clear hg2 hb2)
     go_roundw
     case rel => exact ⟨i + 1, m', rfl, by omega, by go_num, HG2, HP', HB2⟩
     case measure => simp [intOf]; omega
    ·rw [if_neg hle] at hp
     have HP' := Lib.hid (Option.some.inj hp)
     have hd : decide (m' ≤ 1048576) = false := decide_eq_false hle
     clear hp hle
     go_wp2_with (go_at_call 45; refine (HT'.out _ ((Below.heap_alloc _ _ g hgl).trans HG.out)).mono ?_; rintro e w2 ⟨rfl, hg2, hb2⟩; have hcc : w2.cell? ⟨g, 0, none⟩ = some (.int .i64 m') := (blk_cell hg2 0).trans rfl; have hff : w2.frozen? ⟨g, 0, none⟩ = false := blk_frozen hg2 0; have HG2 := Lib.hid hg2; have HB2 := Aside0.mk (Below.trans (below_alloc HB.out _) (hb2 _ (by have := HS.out; omega))); clear hg2 hb2)
     try rw [Exit.noGoto_ret]
     go_ret2
     exact ⟨by cases HP'.out; rfl, below_set HB2.out (by exact HS.out)⟩
   ·have hii : i = l0.length := by omega
    have hcc : wr.cell? ⟨g, 0, none⟩ = some (.int .i64 m) := (blk_cell HG.out 0).trans rfl
    have HP' : Hid (m = r1 ∧ (0 : Int) = r2) := by
     have hp := HP.out
     rw [hii, List.drop_length] at hp
     unfold period.go at hp
     have := Option.some.inj hp
     simp only [Prod.mk.injEq] at this
     exact this
    clear HP hii
    go_wp2
    try rw [Exit.noGoto_ret]
    go_ret2
    exact ⟨by obtain ⟨e1, e2⟩ := HP'.out; rw [← e1, ← e2]; rfl, HB.out⟩
-- param_Row param_Gcd

/-! ### param_Load: function 127 -/
def param_Load.l0 : Nat → Int → Int → List (S31) → Int → Int → Option (Int × Int × Int)
 | 0, _, _, _, _, _ => none
 | k + 1, x5, x7, x18, x19, x20 => if x20 < x19 then (if 0 ≤ x20 then (if x20 < (x18.length : Int) then (if ((rd_T31 x18 x20).f3) = 0 then (none) else (param_Load.l0 k x5 (wrap64 (x7 + (wrap64 (((rd_T31 x18 x20).f1) * (wrap64 (Int.tdiv x5 ((rd_T31 x18 x20).f3))))))) x18 x19 (wrap64 (x20 + 1)))) else (none)) else (none)) else (some (x7, x5, 0))
def param_Load.f (k : Nat) (l0 : List (S31)) : Option (Int × Int × Int) := (param_Period.f k l0).bind fun bt150 => (if bt150.2 = 0 then (param_Load.l0 k bt150.1 0 l0 (l0.length : Int) 0) else (some (0, 0, bt150.2)))
theorem param_Load.mono_l : ∀ k, (∀ y0 y1 y2 y3 y4, LeO (param_Load.l0 k y0 y1 y2 y3 y4) (param_Load.l0 (k + 1) y0 y1 y2 y3 y4))
 | 0 => fun _ _ _ _ _ r h => by simp [param_Load.l0] at h
 | k + 1 => by
  have ih0 := param_Load.mono_l k
  ·intro y0 y1 y2 y3 y4
   unfold param_Load.l0
   repeat' first
   | (with_reducible exact ih0 _ _ _ _ _)
   | (with_reducible exact param_Period.mono _ _)
   | (with_reducible exact LeO.refl _)
   | (with_reducible exact LeO.none _)
   | (with_reducible refine LeO.ite ?_ ?_)
   | (with_reducible refine LeO.bind ?_ (fun _ => ?_))
   | exact ih0 _ _ _ _ _
   | exact param_Period.mono _ _
   | exact LeO.none _
   | refine LeO.ite ?_ ?_
   | refine LeO.bind ?_ (fun _ => ?_)
theorem param_Load.mono : ∀ a0 k, LeO (param_Load.f k a0) (param_Load.f (k + 1) a0) := by
 intro a0 k
 have ih0 := param_Load.mono_l k
 unfold param_Load.f
 repeat' first
   | (with_reducible exact ih0 _ _ _ _ _)
   | (with_reducible exact param_Period.mono _ _)
   | (with_reducible exact LeO.refl _)
   | (with_reducible exact LeO.none _)
   | (with_reducible refine LeO.ite ?_ ?_)
   | (with_reducible refine LeO.bind ?_ (fun _ => ?_))
   | exact ih0 _ _ _ _ _
   | exact param_Period.mono _ _
   | exact LeO.none _
   | refine LeO.ite ?_ ?_
   | refine LeO.bind ?_ (fun _ => ?_)
set_option maxHeartbeats 8000000 in
set_option maxRecDepth 100000 in
theorem param_Load.calls (k : Nat) (A0 : Option Addr) (c0 : Nat) (l0 : List (S31)) (r1 : Int) (r2 : Int) (r3 : Int) (w : World) (hr0 : Kd.C k31 w A0 l0.length l0) (hc0 : l0.length ≤ c0) (h : param_Load.f k l0 = some (r1, r2, r3)) :
  Calls Try.prog 127 #[.slice A0 l0.length c0] w fun e w' => e = .returned (.tuple #[.int .i64 r1, .int .i64 r2, .int .i64 r3]) ∧ Below w.heap.size w w' := by
 have hu31 := Try.underlying31
 have HR0 := Aside0.mk hr0
 have HC0 := Aside0.mk hc0
 clear hr0 hc0
 have HB := Aside0.mk (Below.refl w.heap.size w)
 have H : ((param_Period.f k l0).bind fun bt150 => (if bt150.2 = 0 then (param_Load.l0 k bt150.1 0 l0 (l0.length : Int) 0) else (some (0, 0, bt150.2)))) = some (r1, r2, r3) := h
 clear h
 replace H := Option.bind_eq_some_iff.mp H
 obtain ⟨⟨t150, t151⟩, A20, H⟩ := H
 replace H : (if t151 = 0 then (param_Load.l0 k t150 0 l0 (l0.length : Int) 0) else (some (0, 0, t151))) = some (r1, r2, r3) := H
 have A2 := Aside0.mk A20
 clear A20
 by_cases c3 : t151 = 0
 ·rw [if_pos c3] at H
  have c3b0 : (t151 == 0) = true := beq_iff_eq.mpr c3
  have c3b1 : (t151 != 0) = false := bne_eq_false_iff_eq.mpr c3
  clear c3
  have H' := Aside0.mk H
  clear H
  go_enter Try.func127, Try.ntmps127
  go_wp2_with (first | (go_at_call 29; (with_reducible refine (param_Period.calls k _ _ l0 t150 t151 _ ?side1 ?side2 A2.out).mono ?_); (case side1 => repeat (first | exact HR0.out | (with_reducible refine Kd.C_alloc ?_ _) | (with_reducible refine Kd.C_drewN ?_ _) | (with_reducible refine Kd.C_drew ?_))); (case side2 => exact HC0.out); rintro e w4 ⟨rfl, hb⟩; have n0_ := Aside0.mk (below_step bl_ hb); clear HB; have HB := n0_; clear n0_; (try clear hb); (try clear hb2); (try clear hk); (try clear hi)))
  repeat (go_quiet (first | (go_at_call 29; (with_reducible refine (param_Period.calls k _ _ l0 t150 t151 _ ?side1 ?side2 A2.out).mono ?_); (case side1 => repeat (first | exact HR0.out | (with_reducible refine Kd.C_alloc ?_ _) | (with_reducible refine Kd.C_drewN ?_ _) | (with_reducible refine Kd.C_drew ?_))); (case side2 => exact HC0.out); rintro e w4 ⟨rfl, hb⟩; have n0_ := Aside0.mk (below_step bl_ hb); clear HB; have HB := n0_; clear n0_; (try clear hb); (try clear hb2); (try clear hk); (try clear hi))); try go_wp2_with (first | (go_at_call 29; (with_reducible refine (param_Period.calls k _ _ l0 t150 t151 _ ?side1 ?side2 A2.out).mono ?_); (case side1 => repeat (first | exact HR0.out | (with_reducible refine Kd.C_alloc ?_ _) | (with_reducible refine Kd.C_drewN ?_ _) | (with_reducible refine Kd.C_drew ?_))); (case side2 => exact HC0.out); rintro e w4 ⟨rfl, hb⟩; have n0_ := Aside0.mk (below_step bl_ hb); clear HB; have HB := n0_; clear n0_; (try clear hb); (try clear hb2); (try clear hk); (try clear hi))))
  go_loopg [7, 20] k (fun kq v7 v20 w' => ∃ (x7_1 : Int) (x20_1 : Int), v7 = .int .i64 x7_1 ∧ v20 = .int .i64 x20_1 ∧ Aside0 (param_Load.l0 kq t150 x7_1 l0 (l0.length : Int) x20_1 = some (r1, r2, r3)) ∧ Aside0 (kq ≤ k) ∧ Aside0 (Below w.heap.size w w'))
  case atStart => exact ⟨(0), (0), (by first | rfl | (simp; done) | (simp [*]; done)), (by first | rfl | (simp; done) | (simp [*]; done)), H', ⟨Nat.le_refl _⟩, ⟨bl_⟩⟩
  case round =>
   clear H'
   try clear c1
   try clear p2
   try clear c3
   try clear c3b0
   try clear c3b1
   obtain ⟨x7_1, x20_1, rfl, rfl, HA, HK1, HB⟩ := hrel
   cases gk with
   | zero => exact absurd HA.out (by simp [param_Load.l0])
   | succ k1 =>
    have H := HA.out
    clear HA
    simp only [param_Load.l0] at H
    by_cases c5 : x20_1 < (l0.length : Int)
    ·rw [if_pos c5] at H
     have c5b0 : decide (x20_1 < (l0.length : Int)) = true := decide_eq_true c5
     clear c5
     by_cases c6 : 0 ≤ x20_1
     ·rw [if_pos c6] at H
      have c6b0 : decide (0 ≤ x20_1) = true := decide_eq_true c6
      clear c6
      by_cases c7 : x20_1 < (l0.length : Int)
      ·rw [if_pos c7] at H
       have c7b0 : decide (x20_1 < (l0.length : Int)) = true := decide_eq_true c7
       clear c7
       by_cases c8 : ((rd_T31 l0 x20_1).f3) = 0
       ·rw [if_pos c8] at H
        exact absurd H (by simp)
       ·rw [if_neg c8] at H
        have c8b0 : (((rd_T31 l0 x20_1).f3) == 0) = false := beq_eq_false_iff_ne.mpr c8
        have c8b1 : (((rd_T31 l0 x20_1).f3) != 0) = true := bne_iff_ne.mpr c8
        have H' := Aside0.mk H
        clear H
        have p152 : 0 ≤ (x20_1 : Int) := of_decide_eq_true (by first | (with_reducible assumption) | assumption)
        have q152 : x20_1 < (l0.length : Int) := of_decide_eq_true (by first | (with_reducible assumption) | assumption)
        obtain ⟨ad152, e152, hx152_0, hx152_1, hx152_2, hx152_3, hx152_4⟩ := at_T31 HR0.out x20_1 p152 q152
        cases e152
        replace hx152_0 := (HB.out.cell (World.block_lt_of_cell? w _ hx152_0)).trans hx152_0
        replace hx152_1 := (HB.out.cell (World.block_lt_of_cell? w _ hx152_1)).trans hx152_1
        replace hx152_2 := (HB.out.cell (World.block_lt_of_cell? w _ hx152_2)).trans hx152_2
        replace hx152_3 := (HB.out.cell (World.block_lt_of_cell? w _ hx152_3)).trans hx152_3
        replace hx152_4 := (HB.out.cell (World.block_lt_of_cell? w _ hx152_4)).trans hx152_4
        replace p152 := eq_true p152
        replace q152 := eq_true q152
        go_wp2_with (first | ((with_reducible refine gate_dst (N := 9) rfl ?_); refine box_event ?hg (N := 9) ?hd (cs := #[.int .i64 0, .int .i64 0, .int .i64 0, .int .i64 0, .int .i64 0]) (t := 31) ?hr ?_; (case hd => rfl); (case hg => rfl); (case hr => first | (go_simp; done) | (go_simp; rfl)); intro gb153 hg w9 hbox hb; have n0_ := Aside0.mk (below_step bl_ hb); have n1_ := Aside0.mk (hbox); have n2_ := Aside0.mk ((by rw [hg]; exact (below_size bl_) : w.heap.size ≤ gb153)); have n3_ := Aside0.mk ((by rw [hg]; exact (below_size bl_) : w.heap.size ≤ gb153)); clear HB; have HB := n0_; have BK153 := n1_; have GW153 := n2_; have GE153 := n3_; clear n0_ n1_ n2_ n3_; clear hb hbox hg; have hcz10_0 : w9.cell? ⟨gb153, 0, none⟩ = some (.int .i64 0) := (blk_cell BK153.out 0).trans rfl; have hcz10_1 : w9.cell? ⟨gb153, 1, none⟩ = some (.int .i64 0) := (blk_cell BK153.out 1).trans rfl; have hcz10_2 : w9.cell? ⟨gb153, 2, none⟩ = some (.int .i64 0) := (blk_cell BK153.out 2).trans rfl; have hcz10_3 : w9.cell? ⟨gb153, 3, none⟩ = some (.int .i64 0) := (blk_cell BK153.out 3).trans rfl; have hcz10_4 : w9.cell? ⟨gb153, 4, none⟩ = some (.int .i64 0) := (blk_cell BK153.out 4).trans rfl; have hfz10_0 := blk_frozen BK153.out 0; have hfz10_1 := blk_frozen BK153.out 1; have hfz10_2 := blk_frozen BK153.out 2; have hfz10_3 := blk_frozen BK153.out 3; have hfz10_4 := blk_frozen BK153.out 4))
        repeat (go_quiet (first | ((with_reducible refine gate_dst (N := 9) rfl ?_); refine box_event ?hg (N := 9) ?hd (cs := #[.int .i64 0, .int .i64 0, .int .i64 0, .int .i64 0, .int .i64 0]) (t := 31) ?hr ?_; (case hd => rfl); (case hg => rfl); (case hr => first | (go_simp; done) | (go_simp; rfl)); intro gb153 hg w9 hbox hb; have n0_ := Aside0.mk (below_step bl_ hb); have n1_ := Aside0.mk (hbox); have n2_ := Aside0.mk ((by rw [hg]; exact (below_size bl_) : w.heap.size ≤ gb153)); have n3_ := Aside0.mk ((by rw [hg]; exact (below_size bl_) : w.heap.size ≤ gb153)); clear HB; have HB := n0_; have BK153 := n1_; have GW153 := n2_; have GE153 := n3_; clear n0_ n1_ n2_ n3_; clear hb hbox hg; have hcz10_0 : w9.cell? ⟨gb153, 0, none⟩ = some (.int .i64 0) := (blk_cell BK153.out 0).trans rfl; have hcz10_1 : w9.cell? ⟨gb153, 1, none⟩ = some (.int .i64 0) := (blk_cell BK153.out 1).trans rfl; have hcz10_2 : w9.cell? ⟨gb153, 2, none⟩ = some (.int .i64 0) := (blk_cell BK153.out 2).trans rfl; have hcz10_3 : w9.cell? ⟨gb153, 3, none⟩ = some (.int .i64 0) := (blk_cell BK153.out 3).trans rfl; have hcz10_4 : w9.cell? ⟨gb153, 4, none⟩ = some (.int .i64 0) := (blk_cell BK153.out 4).trans rfl; have hfz10_0 := blk_frozen BK153.out 0; have hfz10_1 := blk_frozen BK153.out 1; have hfz10_2 := blk_frozen BK153.out 2; have hfz10_3 := blk_frozen BK153.out 3; have hfz10_4 := blk_frozen BK153.out 4)); try go_wp2_with (first | ((with_reducible refine gate_dst (N := 9) rfl ?_); refine box_event ?hg (N := 9) ?hd (cs := #[.int .i64 0, .int .i64 0, .int .i64 0, .int .i64 0, .int .i64 0]) (t := 31) ?hr ?_; (case hd => rfl); (case hg => rfl); (case hr => first | (go_simp; done) | (go_simp; rfl)); intro gb153 hg w9 hbox hb; have n0_ := Aside0.mk (below_step bl_ hb); have n1_ := Aside0.mk (hbox); have n2_ := Aside0.mk ((by rw [hg]; exact (below_size bl_) : w.heap.size ≤ gb153)); have n3_ := Aside0.mk ((by rw [hg]; exact (below_size bl_) : w.heap.size ≤ gb153)); clear HB; have HB := n0_; have BK153 := n1_; have GW153 := n2_; have GE153 := n3_; clear n0_ n1_ n2_ n3_; clear hb hbox hg; have hcz10_0 : w9.cell? ⟨gb153, 0, none⟩ = some (.int .i64 0) := (blk_cell BK153.out 0).trans rfl; have hcz10_1 : w9.cell? ⟨gb153, 1, none⟩ = some (.int .i64 0) := (blk_cell BK153.out 1).trans rfl; have hcz10_2 : w9.cell? ⟨gb153, 2, none⟩ = some (.int .i64 0) := (blk_cell BK153.out 2).trans rfl; have hcz10_3 : w9.cell? ⟨gb153, 3, none⟩ = some (.int .i64 0) := (blk_cell BK153.out 3).trans rfl; have hcz10_4 : w9.cell? ⟨gb153, 4, none⟩ = some (.int .i64 0) := (blk_cell BK153.out 4).trans rfl; have hfz10_0 := blk_frozen BK153.out 0; have hfz10_1 := blk_frozen BK153.out 1; have hfz10_2 := blk_frozen BK153.out 2; have hfz10_3 := blk_frozen BK153.out 3; have hfz10_4 := blk_frozen BK153.out 4)))
        go_roundg k1
        case measure => have := HK1.out; omega
        case rel => exact ⟨(wrap64 (x7_1 + (wrap64 (((rd_T31 l0 x20_1).f1) * (wrap64 (Int.tdiv t150 ((rd_T31 l0 x20_1).f3))))))), (wrap64 (x20_1 + 1)), (by first | rfl | (simp; done) | (simp only [i64_w]; done) | (simp [*]; done)), (by first | rfl | (simp; done) | (simp [*]; done)), H', ⟨by have := HK1.out; omega⟩, ⟨bl_⟩⟩
      ·rw [if_neg c7] at H
       exact absurd H (by simp)
     ·rw [if_neg c6] at H
      exact absurd H (by simp)
    ·rw [if_neg c5] at H
     have c5b0 : decide (x20_1 < (l0.length : Int)) = false := decide_eq_false c5
     clear c5
     simp only [Option.some.injEq, Prod.mk.injEq] at H
     obtain ⟨rfl, rfl, rfl⟩ := H
     go_wp2
     repeat (go_quiet (fail); try go_wp2)
     go_ret3
     exact ⟨by first | rfl | (simp [errW_none, errW_some] <;> rfl) | (simp [*, errW_none, errW_some] <;> rfl), bl_⟩
 ·rw [if_neg c3] at H
  have c3b0 : (t151 == 0) = false := beq_eq_false_iff_ne.mpr c3
  have c3b1 : (t151 != 0) = true := bne_iff_ne.mpr c3
  simp only [Option.some.injEq, Prod.mk.injEq] at H
  obtain ⟨rfl, rfl, rfl⟩ := H
  go_enter Try.func127, Try.ntmps127
  go_wp2_with (first | (go_at_call 29; (with_reducible refine (param_Period.calls k _ _ l0 t150 t151 _ ?side1 ?side2 A2.out).mono ?_); (case side1 => repeat (first | exact HR0.out | (with_reducible refine Kd.C_alloc ?_ _) | (with_reducible refine Kd.C_drewN ?_ _) | (with_reducible refine Kd.C_drew ?_))); (case side2 => exact HC0.out); rintro e w11 ⟨rfl, hb⟩; have n0_ := Aside0.mk (below_step bl_ hb); clear HB; have HB := n0_; clear n0_; (try clear hb); (try clear hb2); (try clear hk); (try clear hi)))
  repeat (go_quiet (first | (go_at_call 29; (with_reducible refine (param_Period.calls k _ _ l0 t150 t151 _ ?side1 ?side2 A2.out).mono ?_); (case side1 => repeat (first | exact HR0.out | (with_reducible refine Kd.C_alloc ?_ _) | (with_reducible refine Kd.C_drewN ?_ _) | (with_reducible refine Kd.C_drew ?_))); (case side2 => exact HC0.out); rintro e w11 ⟨rfl, hb⟩; have n0_ := Aside0.mk (below_step bl_ hb); clear HB; have HB := n0_; clear n0_; (try clear hb); (try clear hb2); (try clear hk); (try clear hi))); try go_wp2_with (first | (go_at_call 29; (with_reducible refine (param_Period.calls k _ _ l0 t150 t151 _ ?side1 ?side2 A2.out).mono ?_); (case side1 => repeat (first | exact HR0.out | (with_reducible refine Kd.C_alloc ?_ _) | (with_reducible refine Kd.C_drewN ?_ _) | (with_reducible refine Kd.C_drew ?_))); (case side2 => exact HC0.out); rintro e w11 ⟨rfl, hb⟩; have n0_ := Aside0.mk (below_step bl_ hb); clear HB; have HB := n0_; clear n0_; (try clear hb); (try clear hb2); (try clear hk); (try clear hi))))
  go_ret3
  exact ⟨by first | rfl | (simp [errW_none, errW_some] <;> rfl) | (simp [*, errW_none, errW_some] <;> rfl), bl_⟩

/-! ### param_Over: function 117 -/
def param_Over.f (k : Nat) (l0 : List (S31)) : Option (Bool × Int) := (param_Load.f k l0).bind fun bt154 => (some (decide (bt154.1 > bt154.2.1), bt154.2.2))
theorem param_Over.mono : ∀ a0 k, LeO (param_Over.f k a0) (param_Over.f (k + 1) a0) := by
 intro a0 k
 unfold param_Over.f
 repeat' first
   | (with_reducible exact param_Load.mono _ _)
   | (with_reducible exact LeO.refl _)
   | (with_reducible exact LeO.none _)
   | (with_reducible refine LeO.ite ?_ ?_)
   | (with_reducible refine LeO.bind ?_ (fun _ => ?_))
   | exact param_Load.mono _ _
   | exact LeO.none _
   | refine LeO.ite ?_ ?_
   | refine LeO.bind ?_ (fun _ => ?_)
set_option maxHeartbeats 8000000 in
set_option maxRecDepth 100000 in
theorem param_Over.calls (k : Nat) (A0 : Option Addr) (c0 : Nat) (l0 : List (S31)) (r1 : Bool) (r2 : Int) (w : World) (hr0 : Kd.C k31 w A0 l0.length l0) (hc0 : l0.length ≤ c0) (h : param_Over.f k l0 = some (r1, r2)) :
  Calls Try.prog 117 #[.slice A0 l0.length c0] w fun e w' => e = .returned (.tuple #[.bool r1, .int .i64 r2]) ∧ Below w.heap.size w w' := by
 have HR0 := Aside0.mk hr0
 have HC0 := Aside0.mk hc0
 clear hr0 hc0
 have HB := Aside0.mk (Below.refl w.heap.size w)
 have H : ((param_Load.f k l0).bind fun bt154 => (some (decide (bt154.1 > bt154.2.1), bt154.2.2))) = some (r1, r2) := h
 clear h
 replace H := Option.bind_eq_some_iff.mp H
 obtain ⟨⟨t154, t155, t156⟩, A20, H⟩ := H
 replace H : (some (decide (t154 > t155), t156)) = some (r1, r2) := H
 have A2 := Aside0.mk A20
 clear A20
 simp only [Option.some.injEq, Prod.mk.injEq] at H
 obtain ⟨rfl, rfl⟩ := H
 go_enter Try.func117, Try.ntmps117
 go_wp2_with (first | ((with_reducible refine gate_callee (f := 127) rfl ?_); refine goesL_ (some 9) rfl rfl Try.func127 (by kernel_rfl) rfl #[.slice A0 l0.length c0] rfl (by (try simp only [List.map_toArray, List.map_cons, List.map_nil]); first | done | rfl | (simp only [List.length_drop, List.length_take]; rfl)) ?_; (with_reducible refine (param_Load.calls k _ _ l0 t154 t155 t156 _ ?side1 ?side2 A2.out).mono ?_); (case side1 => repeat (first | exact HR0.out | (with_reducible refine Kd.C_alloc ?_ _) | (with_reducible refine Kd.C_drewN ?_ _) | (with_reducible refine Kd.C_drew ?_))); (case side2 => exact HC0.out); rintro e w3 ⟨rfl, hb⟩; refine ⟨_, rfl, ?_⟩; have n0_ := Aside0.mk (below_step bl_ hb); clear HB; have HB := n0_; clear n0_; (try clear hb); (try clear hb2); (try clear hk); (try clear hi)))
 go_ret2
 exact ⟨by first | rfl | (simp [errW_none, errW_some] <;> rfl) | (simp [*, errW_none, errW_some] <;> rfl), bl_⟩

/-! ### busy_right: function 98 -/
def busy_right.f (k : Nat) (l0 : List (S31)) : Option (Int) := (param_Over.f k l0).bind fun bt157 => (if bt157.2 = 0 then (if bt157.1 = true then (some 17) else (some bt157.2)) else (some bt157.2))
theorem busy_right.mono : ∀ a0 k, LeO (busy_right.f k a0) (busy_right.f (k + 1) a0) := by
 intro a0 k
 unfold busy_right.f
 repeat' first
   | (with_reducible exact param_Over.mono _ _)
   | (with_reducible exact LeO.refl _)
   | (with_reducible exact LeO.none _)
   | (with_reducible refine LeO.ite ?_ ?_)
   | (with_reducible refine LeO.bind ?_ (fun _ => ?_))
   | exact param_Over.mono _ _
   | exact LeO.none _
   | refine LeO.ite ?_ ?_
   | refine LeO.bind ?_ (fun _ => ?_)
set_option maxHeartbeats 8000000 in
set_option maxRecDepth 100000 in
theorem busy_right.calls (k : Nat) (A0 : Option Addr) (c0 : Nat) (l0 : List (S31)) (r : Int) (w : World) (hr0 : Kd.C k31 w A0 l0.length l0) (hc0 : l0.length ≤ c0) (h : busy_right.f k l0 = some r) :
  Calls Try.prog 98 #[.slice A0 l0.length c0] w fun e w' => e = .returned (.int .i64 r) ∧ Below w.heap.size w w' := by
 have HR0 := Aside0.mk hr0
 have HC0 := Aside0.mk hc0
 clear hr0 hc0
 have HB := Aside0.mk (Below.refl w.heap.size w)
 have H : ((param_Over.f k l0).bind fun bt157 => (if bt157.2 = 0 then (if bt157.1 = true then (some 17) else (some bt157.2)) else (some bt157.2))) = some r := h
 clear h
 replace H := Option.bind_eq_some_iff.mp H
 obtain ⟨⟨t157, t158⟩, A20, H⟩ := H
 replace H : (if t158 = 0 then (if t157 = true then (some 17) else (some t158)) else (some t158)) = some r := H
 have A2 := Aside0.mk A20
 clear A20
 by_cases c3 : t158 = 0
 ·rw [if_pos c3] at H
  have c3b0 : (t158 == 0) = true := beq_iff_eq.mpr c3
  have c3b1 : (t158 != 0) = false := bne_eq_false_iff_eq.mpr c3
  clear c3
  by_cases c4 : t157 = true
  ·subst c4
   have H1 : (some 17) = some r := by rw [if_pos rfl] at H; exact H
   clear H
   have H := H1
   clear H1
   obtain rfl := Option.some.inj H
   go_enter Try.func98, Try.ntmps98
   go_wp2_with (first | ((with_reducible refine gate_callee (f := 117) rfl ?_); refine goesL_ (some 7) rfl rfl Try.func117 (by kernel_rfl) rfl #[.slice A0 l0.length c0] rfl (by (try simp only [List.map_toArray, List.map_cons, List.map_nil]); first | done | rfl | (simp only [List.length_drop, List.length_take]; rfl)) ?_; (with_reducible refine (param_Over.calls k _ _ l0 true t158 _ ?side1 ?side2 A2.out).mono ?_); (case side1 => repeat (first | exact HR0.out | (with_reducible refine Kd.C_alloc ?_ _) | (with_reducible refine Kd.C_drewN ?_ _) | (with_reducible refine Kd.C_drew ?_))); (case side2 => exact HC0.out); rintro e w5 ⟨rfl, hb⟩; refine ⟨_, rfl, ?_⟩; have n0_ := Aside0.mk (below_step bl_ hb); clear HB; have HB := n0_; clear n0_; (try clear hb); (try clear hb2); (try clear hk); (try clear hi)))
   go_ret
   exact ⟨by first | rfl | (simp [errW_none, errW_some] <;> rfl) | (simp [*, errW_none, errW_some] <;> rfl), bl_⟩
  ·replace c4 := Bool.eq_false_iff.mpr c4
   subst c4
   have H1 : (some t158) = some r := by rw [if_neg (show ¬ (false = true) by decide)] at H; exact H
   clear H
   have H := H1
   clear H1
   obtain rfl := Option.some.inj H
   go_enter Try.func98, Try.ntmps98
   go_wp2_with (first | ((with_reducible refine gate_callee (f := 117) rfl ?_); refine goesL_ (some 7) rfl rfl Try.func117 (by kernel_rfl) rfl #[.slice A0 l0.length c0] rfl (by (try simp only [List.map_toArray, List.map_cons, List.map_nil]); first | done | rfl | (simp only [List.length_drop, List.length_take]; rfl)) ?_; (with_reducible refine (param_Over.calls k _ _ l0 false t158 _ ?side1 ?side2 A2.out).mono ?_); (case side1 => repeat (first | exact HR0.out | (with_reducible refine Kd.C_alloc ?_ _) | (with_reducible refine Kd.C_drewN ?_ _) | (with_reducible refine Kd.C_drew ?_))); (case side2 => exact HC0.out); rintro e w6 ⟨rfl, hb⟩; refine ⟨_, rfl, ?_⟩; have n0_ := Aside0.mk (below_step bl_ hb); clear HB; have HB := n0_; clear n0_; (try clear hb); (try clear hb2); (try clear hk); (try clear hi)))
   go_ret
   exact ⟨by first | rfl | (simp [errW_none, errW_some] <;> rfl) | (simp [*, errW_none, errW_some] <;> rfl), bl_⟩
 ·rw [if_neg c3] at H
  have c3b0 : (t158 == 0) = false := beq_eq_false_iff_ne.mpr c3
  have c3b1 : (t158 != 0) = true := bne_iff_ne.mpr c3
  obtain rfl := Option.some.inj H
  go_enter Try.func98, Try.ntmps98
  go_wp2_with (first | ((with_reducible refine gate_callee (f := 117) rfl ?_); refine goesL_ (some 7) rfl rfl Try.func117 (by kernel_rfl) rfl #[.slice A0 l0.length c0] rfl (by (try simp only [List.map_toArray, List.map_cons, List.map_nil]); first | done | rfl | (simp only [List.length_drop, List.length_take]; rfl)) ?_; (with_reducible refine (param_Over.calls k _ _ l0 t157 t158 _ ?side1 ?side2 A2.out).mono ?_); (case side1 => repeat (first | exact HR0.out | (with_reducible refine Kd.C_alloc ?_ _) | (with_reducible refine Kd.C_drewN ?_ _) | (with_reducible refine Kd.C_drew ?_))); (case side2 => exact HC0.out); rintro e w7 ⟨rfl, hb⟩; refine ⟨_, rfl, ?_⟩; have n0_ := Aside0.mk (below_step bl_ hb); clear HB; have HB := n0_; clear n0_; (try clear hb); (try clear hb2); (try clear hk); (try clear hi)))
  go_ret
  exact ⟨by first | rfl | (simp [errW_none, errW_some] <;> rfl) | (simp [*, errW_none, errW_some] <;> rfl), bl_⟩

/-! ### busy_Length: function 72 (by hand) -/
theorem w64 {n : Int} (h1 : -9223372036854775808 ≤ n) (h2 : n ≤ 9223372036854775807) : wrap64 n = n := by unfold wrap64; omega
theorem some_k {k : Nat} (h : 0 < k) : ∃ m, k = m + 1 := ⟨k - 1, by omega⟩
theorem tmod_rng (a : Int) {m : Int} (h : 0 < m) : -m < Int.tmod a m ∧ Int.tmod a m < m := by
 rcases Int.le_total 0 a with ha | ha
 ·have h2 := Int.tmod_lt_of_pos a h; have h3 := Int.tmod_nonneg m ha; omega
 ·have h2 := Int.tmod_lt_of_pos (-a) h; have h3 := Int.tmod_nonneg m (show 0 ≤ -a by omega)
  rw [Int.neg_tmod] at h2 h3; omega
theorem tmod_pos {a m : Int} (h : 0 < m) (ha : 0 ≤ a) : 0 ≤ Int.tmod a m ∧ Int.tmod a m < m := ⟨Int.tmod_nonneg m ha, Int.tmod_lt_of_pos a h⟩
theorem u64_mod (n : Int) : IntKind.u64.wrap n = n % 18446744073709551616 := by simp [IntKind.wrap, IntKind.bits, IntKind.signed]
theorem u64in {n : Int} (h1 : 0 ≤ n) (h2 : n < 18446744073709551616) : IntKind.u64.wrap n = n := by rw [u64_mod]; omega
def tk (s : S31) : Hm.Tk := ⟨s.f0, s.f1, s.f2, s.f3, s.f4⟩
theorem taskB_ok (s : S31) : taskB s = true ↔ (tk s).ok := by
 unfold taskB Hm.Tk.ok tk
 simp only [Bool.and_eq_true, decide_eq_true_eq]
/-- Tasks may be. -/
def okL (l : List S31) : Prop := l.length ≤ 16 ∧ ∀ s ∈ l, (tk s).ok
theorem row_yes {l : List S31} (h : okL l) : param_Row.f l = some true := by
 unfold param_Row.f
 have h1 : l.all taskB = true := by rw [List.all_eq_true]; intro s hs; exact (taskB_ok s).2 (h.2 s hs)
 rw [h1]; simp [h.1]
theorem row_no {l : List S31} (h : ¬ okL l) : param_Row.f l = some false := by
 unfold param_Row.f
 by_cases h1 : l.length ≤ 16
 ·have h2 : l.all taskB = false := by
   rw [Bool.eq_false_iff]; intro h3; rw [List.all_eq_true] at h3
   exact h ⟨h1, fun s hs => (taskB_ok s).1 (h3 s hs)⟩
  rw [h2]; simp
 ·simp [h1]
theorem okL_map {l : List S31} (h : okL l) : ∀ t ∈ l.map tk, t.ok := by
 intro t ht; obtain ⟨s, hs, rfl⟩ := List.mem_map.1 ht; exact h.2 s hs
theorem rd_mid (pre : List S31) (s : S31) (suf : List S31) : rd_T31 (pre ++ s :: suf) (pre.length : Int) = s := by
 simp [rd_T31]
def rowB (l : List S31) : Bool := decide (l.length ≤ 16) && l.all taskB
theorem rowB_ok (l : List S31) : rowB l = true ↔ okL l := by
 unfold rowB okL
 simp only [Bool.and_eq_true, decide_eq_true_eq, List.all_eq_true]
 exact ⟨fun h => ⟨h.1, fun s hs => (taskB_ok s).1 (h.2 s hs)⟩, fun h => ⟨h.1, fun s hs => (taskB_ok s).2 (h.2 s hs)⟩⟩
theorem row_is (l : List S31) : param_Row.f l = some (rowB l) := rfl
theorem bmay_is (l : List S31) (x : Int) : busy_may.f l x = some (rowB l && (decide (0 ≤ x) && decide (x ≤ 1099511627776))) := by
 unfold busy_may.f
 rw [row_is]; simp only [Option.bind_some]
 cases rowB l with
 | false => rfl
 | true =>
  simp only [if_true, Bool.true_and]
  by_cases h : 0 ≤ x
  ·rw [if_pos h]; simp [h]
  ·rw [if_neg h]; simp [h]
theorem work_loop {x : Int} (h0 : 0 ≤ x) (h1 : x ≤ 1099511627776) (suf : List S31) : ∀ (pre : List S31) (k : Nat) (acc : Int), okL (pre ++ suf) → suf.length < k → 0 ≤ acc → acc ≤ (pre.length : Int) * 2000000000000 →
  busy_Work.l0 k x acc (pre ++ suf) ((pre ++ suf).length : Int) (pre.length : Int) = some (acc + Hm.work (suf.map tk) x) := by
 induction suf with
 | nil =>
  intro pre k acc _ hk _ _
  obtain ⟨k, rfl⟩ := some_k hk
  simp only [busy_Work.l0, List.append_nil, List.map_nil, Hm.work]
  rw [if_neg (by omega)]; simp
 | cons s suf ih =>
  intro pre k acc hok hk ha hb
  obtain ⟨k, rfl⟩ := some_k (show 0 < k by omega)
  have hs : (tk s).ok := hok.2 s (by simp)
  have hw := Hm.jobw_le hs h0
  have hlen := hok.1
  simp only [List.length_append, List.length_cons] at hlen hk
  have hc : (tk s).c = s.f1 := rfl
  rw [hc] at hw
  have hj : Hm.jobs (tk s) x = (x + s.f3 - 1) / s.f3 := rfl
  obtain ⟨_, _, h2, h3, h4, h5, _, _⟩ := id hs
  simp only [tk] at h2 h3 h4 h5
  have i1 : ((pre ++ s :: suf).length : Int) = (pre.length : Int) + ((suf.length : Int) + 1) := by simp
  have i2 := ih (pre ++ [s]) k (acc + s.f1 * Hm.jobs (tk s) x) (by simpa using hok) (by omega) (by omega) (by simp only [List.length_append, List.length_singleton]; omega)
  simp only [List.append_assoc, List.cons_append, List.nil_append] at i2
  rw [show ((pre ++ [s]).length : Int) = (pre.length : Int) + 1 from by simp] at i2
  have hq := Int.ediv_nonneg (show 0 ≤ x + s.f3 - 1 by omega) (show 0 ≤ s.f3 by omega)
  have hq2 := Int.ediv_le_self s.f3 (show 0 ≤ x + s.f3 - 1 by omega)
  simp only [busy_Work.l0]
  rw [if_pos (by omega), if_pos (by omega), if_pos (by omega), rd_mid, if_neg (by omega), w64 (n := x + s.f3) (by omega) (by omega), w64 (n := x + s.f3 - 1) (by omega) (by omega), Int.tdiv_eq_ediv_of_nonneg (by omega), w64 (n := (x + s.f3 - 1) / s.f3) (by omega) (by omega), ← hj]
  rw [w64 (n := s.f1 * Hm.jobs (tk s) x) (by omega) (by omega), w64 (n := acc + s.f1 * Hm.jobs (tk s) x) (by omega) (by omega), w64 (n := (pre.length : Int) + 1) (by omega) (by omega), i2]
  simp only [List.map_cons, Hm.work, hc]
  congr 1; omega
/-- What Work tells. -/
def workV (l : List S31) (x : Int) : Int := if (rowB l && (decide (0 ≤ x) && decide (x ≤ 1099511627776))) = true then Hm.work (l.map tk) x else 0
theorem Work_all (k : Nat) (l : List S31) (x : Int) (hk : 17 ≤ k) : busy_Work.f k l x = some (workV l x) := by
 unfold busy_Work.f workV
 rw [bmay_is]; simp only [Option.bind_some]
 by_cases h : (rowB l && (decide (0 ≤ x) && decide (x ≤ 1099511627776))) = true
 ·rw [if_pos h, if_pos h]
  simp only [Bool.and_eq_true, decide_eq_true_eq] at h
  have hok := (rowB_ok l).1 h.1
  have := work_loop h.2.1 h.2.2 l [] k 0 (by simpa using hok) (by have := hok.1; omega) (by omega) (by simp)
  simpa using this
 ·rw [if_neg h, if_neg h]
theorem workV_yes {l : List S31} {x : Int} (h : okL l) (h0 : 0 ≤ x) (h1 : x ≤ 1099511627776) : workV l x = Hm.work (l.map tk) x := by
 unfold workV; rw [if_pos (by simp [(rowB_ok l).2 h, h0, h1])]
-- busy_Work busy_right param_Row busy_may
open PxR in
/-- The blocks that a list of steps goes on from: the list in a variable, the time, the function value. -/
structure StepsAt (w W : World) (A : Option Addr) (c0 : Nat) (l0 : List S31) (Bl Bx Bn : Nat) (x : Int) : Prop where
 hl : W.heap[Bl]? = some (.cells #[.slice A l0.length c0] 24 (0, 0))
 hx : W.heap[Bx]? = some (.cells #[.int .i64 x] 2 (0, 0))
 hn : W.heap[Bn]? = some (.cells #[.func (.func 118) #[] #[.pointer (some ⟨Bx, 0, none⟩), .pointer (some ⟨Bl, 0, none⟩)]] 23 (0, 0))
 gl : w.heap.size ≤ Bl
 gx : w.heap.size ≤ Bx
 gn : w.heap.size ≤ Bn
 lx : Bl ≠ Bx
 nx : Bn ≠ Bx
 hb : Below w.heap.size w W
set_option maxHeartbeats 4000000 in
set_option maxRecDepth 100000 in
theorem stepsNext.calls (A : Option Addr) (c0 : Nat) (l0 : List S31) (Bl Bx Bn : Nat) (x : Int) (w W : World) (hr : Kd.C k31 w A l0.length l0) (hc : l0.length ≤ c0) (hs : StepsAt w W A c0 l0 Bl Bx Bn x) :
  Calls Try.prog 118 #[.pointer (some ⟨Bx, 0, none⟩), .pointer (some ⟨Bl, 0, none⟩)] W fun e W' => e = .returned (.bool (workV l0 x != x)) ∧ ∃ W1, Below W.heap.size W W1 ∧ W' = W1.setCell ⟨Bx, 0, none⟩ (.int .i64 (workV l0 x)) := by
 have HC := Lib.hid (fun (W2 : World) (hW : Below w.heap.size w W2) => busy_Work.calls 20 A c0 l0 x (workV l0 x) W2 (Kd.C_below hr hW) hc (Work_all 20 l0 x (by omega)))
 have HS := Lib.hid hs
 have c1 : W.cell? ⟨Bx, 0, none⟩ = some (.int .i64 x) := (blk_cell hs.hx 0).trans rfl
 have c2 : W.cell? ⟨Bl, 0, none⟩ = some (.slice A l0.length c0) := (blk_cell hs.hl 0).trans rfl
 obtain ⟨y, hy⟩ : ∃ y, workV l0 x = y := ⟨_, rfl⟩
 rw [hy] at HC
 rw [hy]
 clear hr hc hs hy
 go_enter Try.func118, Try.ntmps118
 go_wp2_with (go_at_call 119; refine (HC.out _ HS.out.hb).mono ?_; rintro e w1 ⟨rfl, hb1⟩; have hq1 := blk_below HS.out.hx hb1; have c3 : w1.cell? ⟨Bx, 0, none⟩ = some (.int .i64 x) := (blk_cell hq1 0).trans rfl; have f3 : w1.frozen? ⟨Bx, 0, none⟩ = false := blk_frozen hq1 0; have HB1 := Aside0.mk hb1; clear hb1 hq1)
 go_ret
 exact ⟨rfl, _, HB1.out, rfl⟩
def sumF (l : List S31) : Int := l.foldl (fun a s => wrap64 (a + s.f1)) 0
theorem sumF_snoc (l : List S31) (s : S31) : sumF (l ++ [s]) = wrap64 (sumF l + s.f1) := by simp [sumF]
theorem take_rd {l0 : List S31} {i : Nat} (h : i < l0.length) : l0.take (i + 1) = l0.take i ++ [rd_T31 l0 (i : Int)] := by
 rw [List.take_succ_eq_append_getElem h]; simp [rd_T31, h]
def StepsMade (w : World) (A : Option Addr) (c0 : Nat) (l0 : List S31) (e : Ending) (w' : World) : Prop :=
 ∃ Bl Bx Bn, e = .returned (.func (.func 120) #[] #[.pointer (some ⟨Bx, 0, none⟩), .pointer (some ⟨Bn, 0, none⟩)]) ∧ StepsAt w w' A c0 l0 Bl Bx Bn (sumF l0)
set_option maxHeartbeats 4000000 in
set_option maxRecDepth 100000 in
theorem stepsMake.calls (A : Option Addr) (c0 : Nat) (l0 : List S31) (w : World) (hr : Kd.C k31 w A l0.length l0) (hc : l0.length ≤ c0) :
  Calls Try.prog 99 #[.slice A l0.length c0] w (StepsMade w A c0 l0) := by
 have hu := Try.underlying31
 have hmax : l0.length ≤ 9223372036854775807 := Kd.C_max hr
 have HR0 := Aside0.mk hr
 have HC0 := Aside0.mk hc
 clear hr hc
 go_enter Try.func99, Try.ntmps99
 go_wp2
 obtain ⟨b, hb0⟩ : ∃ b, w.heap.size = b := ⟨_, rfl⟩
 obtain ⟨wa, hwa⟩ : ∃ wa, (w.alloc (.cells #[.slice A l0.length c0] 24)).alloc (.cells #[.int .i64 0] 2) = wa := ⟨_, rfl⟩
 have gl0 : wa.heap[b]? = some (.cells #[.slice A l0.length c0] 24 (0, 0)) := by
  rw [← hwa, ← hb0]; exact (Below.heap_alloc _ _ _ (by simp)).trans (by simpa using heap_alloc_new w _)
 have gx0 : wa.heap[b + 1]? = some (.cells #[.int .i64 0] 2 (0, 0)) := by
  rw [← hwa, ← hb0]; have := heap_alloc_new (w.alloc (.cells #[.slice A l0.length c0] 24)) (.cells #[.int .i64 0] 2); rw [World.size_alloc] at this; simpa using this
 have hB0 : Below w.heap.size w wa := by rw [← hwa]; exact below_alloc (below_alloc (Below.refl _ _) _) _
 rw [hwa]
 have HB0 := Lib.hid hb0
 rw [hb0]
 have GL0 := Lib.hid gl0
 have GX0 := Lib.hid gx0
 have HBW := Aside0.mk hB0
 clear gl0 gx0 hB0 hwa hb0
 go_loopw [5, 9] (fun _ v9 wr => ∃ i : Nat, i ≤ l0.length ∧ v9 = .int .i64 i ∧ Hid (wr.heap[b]? = some (.cells #[.slice A l0.length c0] 24 (0, 0))) ∧ Hid (wr.heap[b + 1]? = some (.cells #[.int .i64 (sumF (l0.take i))] 2 (0, 0))) ∧ Aside0 (Below w.heap.size w wr)) (fun _ v9 _ => l0.length - (intOf v9).toNat)
 case atStart => exact ⟨0, Nat.zero_le _, rfl, GL0, GX0, HBW⟩
 case round =>
  obtain ⟨i, hi, rfl, GL, GX, HB⟩ := hrel
  have hbl : b + 1 < wr.heap.size := (Array.getElem?_eq_some_iff.1 GX.out).1
  by_cases hlt : i < l0.length
  ·have p0 : (0 : Int) ≤ (i : Int) := by omega
   have q0 : (i : Int) < (l0.length : Int) := by omega
   obtain ⟨ad, e0, hx0, hx1, hx2, hx3, hx4⟩ := at_T31 HR0.out i p0 q0
   cases e0
   replace hx0 := (HB.out.cell (World.block_lt_of_cell? w _ hx0)).trans hx0
   replace hx1 := (HB.out.cell (World.block_lt_of_cell? w _ hx1)).trans hx1
   replace hx2 := (HB.out.cell (World.block_lt_of_cell? w _ hx2)).trans hx2
   replace hx3 := (HB.out.cell (World.block_lt_of_cell? w _ hx3)).trans hx3
   replace hx4 := (HB.out.cell (World.block_lt_of_cell? w _ hx4)).trans hx4
   simp only [Int.toNat_natCast] at hx0 hx1 hx2 hx3 hx4
   have c1 : ∀ o, (wr.alloc o).cell? ⟨b + 1, 0, none⟩ = some (.int .i64 (sumF (l0.take i))) := fun o => (blk_cell ((Below.heap_alloc wr o (b + 1) hbl).trans GX.out) 0).trans rfl
   have f1 : ∀ o, (wr.alloc o).frozen? ⟨b + 1, 0, none⟩ = false := fun o => blk_frozen ((Below.heap_alloc wr o (b + 1) hbl).trans GX.out) 0
   have HW : Hid (∀ o, ((wr.setCell ⟨b + 1, 0, none⟩ (.int .i64 (wrap64 (sumF (l0.take i) + (rd_T31 l0 (i : Int)).f1)))).alloc o).heap[b + 1]? = some (.cells #[.int .i64 (sumF (l0.take (i + 1)))] 2 (0, 0))) := fun o => by
    have := blk_set GX.out 0 (.int .i64 (wrap64 (sumF (l0.take i) + (rd_T31 l0 (i : Int)).f1)))
    rw [take_rd hlt, sumF_snoc]
    exact (Below.heap_alloc _ o (b + 1) (by simpa using hbl)).trans (by simpa using this)
   have HL : Hid (∀ o v, ((wr.setCell ⟨b + 1, 0, none⟩ v).alloc o).heap[b]? = some (.cells #[.slice (some ad) l0.length c0] 24 (0, 0))) := fun o v => (Below.heap_alloc _ o b (by simp; omega)).trans (blk_far GL.out (by simp) v)
   obtain ⟨sm, hsm⟩ : ∃ sm, sumF (l0.take i) = sm := ⟨_, rfl⟩
   rw [hsm] at HW
   simp only [hsm] at c1
   clear hsm GX
   go_wp2
   go_roundw
   case rel => exact ⟨i + 1, by omega, by go_num, HL.out _ _, HW.out _, ⟨below_alloc (below_set HB.out (by rw [HB0.out]; omega)) _⟩⟩
   case measure => simp [intOf]; omega
  ·have hii : i = l0.length := by omega
   have HX : Hid (wr.heap[b + 1]? = some (.cells #[.int .i64 (sumF l0)] 2 (0, 0))) := by
    have := GX.out; rw [hii, List.take_length] at this; exact this
   clear GX hii
   go_wp2
   go_ret
   refine ⟨b, b + 1, wr.heap.size, rfl, ?_⟩
   exact ⟨(Below.heap_alloc wr _ b (by omega)).trans GL.out, (Below.heap_alloc wr _ (b + 1) hbl).trans HX.out, by simpa using heap_alloc_new wr _, by rw [HB0.out]; omega, by rw [HB0.out]; omega, HB.out.size, by omega, by omega, below_alloc HB.out _⟩
/-- The steps from x on, where they end within k. -/
def stepsL (l0 : List S31) : Nat → Int → Option (List Int)
 | 0, _ => none
 | k + 1, x => if workV l0 x = x then some [x] else (stepsL l0 k (workV l0 x)).map (x :: ·)
theorem stepsL_mono (l0 : List S31) : ∀ k x, LeO (stepsL l0 k x) (stepsL l0 (k + 1) x)
 | 0, x => fun r h => by simp [stepsL] at h
 | k + 1, x => by
  unfold stepsL
  exact LeO.ite (LeO.refl _) (LeO.map _ (stepsL_mono l0 k _))
theorem stepsL_le {l0 : List S31} {c k : Nat} (hck : c ≤ k) {x : Int} {r : List Int} (h : stepsL l0 c x = some r) : stepsL l0 k x = some r :=
 at_rounds (g := fun k => stepsL l0 k x) (fun k => stepsL_mono l0 k x) hck h
def cellI (W : World) (B : Nat) : Int := match W.cell? ⟨B, 0, none⟩ with | some (.int _ x) => x | _ => 0
theorem cellI_of {W : World} {B t : Nat} {x : Int} (h : W.heap[B]? = some (.cells #[.int .i64 x] t (0, 0))) : cellI W B = x := by
 unfold cellI; rw [blk_cell h 0]; rfl
/-- what a round of the loop keeps: all that lay when the call began, and the iterator's blocks. -/
def StepsKp (w : World) (Bl Bx Bn : Nat) (W W' : World) : Prop := Below w.heap.size W W' ∧ W'.heap[Bl]? = W.heap[Bl]? ∧ W'.heap[Bx]? = W.heap[Bx]? ∧ W'.heap[Bn]? = W.heap[Bn]?
set_option maxHeartbeats 4000000 in
set_option maxRecDepth 100000 in
attribute [local go_sem] Oper.semAt_some in
theorem steps_seq (A : Option Addr) (c0 : Nat) (l0 : List S31) (w W0 : World) (hr : Kd.C k31 w A l0.length l0) (hc : l0.length ≤ c0) (Bl Bx Bn : Nat) (x0 : Int) (hs : StepsAt w W0 A c0 l0 Bl Bx Bn x0) (k : Nat) (xs : List Int) (hxs : stepsL l0 k x0 = some xs) (n : Nat) (hn : 3 ≤ n) :
  PxR.SeqX Fence.wide n Try.prog 120 #[.pointer (some ⟨Bx, 0, none⟩), .pointer (some ⟨Bn, 0, none⟩)] (fun x : Int => #[.int .i64 x]) (StepsKp w Bl Bx Bn) (fun _ r => r = Bx) (fun ys => ys = xs) (fun ys => ys <+: xs) xs.length W0 := by
 intro l J Jx W hW hJ hJx hY h0
 refine callsIn_wide.2 ?_
 simp only [List.append_toArray, List.cons_append, List.nil_append]
 go_enter Try.func120, Try.ntmps120
 go_wp2
 go_step3
 go_wp2
 go_step3
 go_wp2
 refine (wpIn_wide (n := n)).1 ?_
 have HS := Lib.hid hs
 have HW := Lib.hid hW
 have HR0 := Lib.hid hr
 have HC0 := Lib.hid hc
 have HXS := Lib.hid hxs
 have HN := Lib.hid hn
 have HJ := Lib.hid hJ
 have HJX := Lib.hid hJx
 have HY := Lib.hid hY
 have H0 := Lib.hid h0
 clear hs hW hr hc hxs hn hJ hJx hY h0
 gi_loopw [4, 5, 6, 7, 8, 9] (fun _ _ _ _ _ _ wr => ∃ (pre : List Int) (x : Int) (c : Nat) (rest : List Int), Hid (StepsAt w wr A c0 l0 Bl Bx Bn x) ∧ Hid (stepsL l0 c x = some rest ∧ c ≤ k) ∧ Hid (xs = pre ++ rest) ∧ Hid (J pre wr)) (fun _ _ _ _ _ _ wr => ((stepsL l0 k (cellI wr Bx)).getD []).length)
 case atStart =>
  refine ⟨[], x0, k, xs, ?_, ⟨HXS.out, Nat.le_refl _⟩, rfl, H0.out⟩
  obtain ⟨h1, h2, h3, h4, h5, h6, h7, h8, h9⟩ := HS.out
  exact ⟨blk_below h1 HW.out, blk_below h2 HW.out, blk_below h3 HW.out, h4, h5, h6, h7, h8, below_step h9 HW.out⟩
 case round =>
  obtain ⟨pre, x, c, rest, HA, HL, HX, HJ0⟩ := hrel
  cases c with
  | zero => exact absurd HL.out.1 (by simp [stepsL])
  | succ c =>
   have hl := HL.out.1
   unfold stepsL at hl
   obtain ⟨rest', hrest, hcase⟩ : ∃ rest', rest = x :: rest' ∧ ((workV l0 x = x ∧ rest' = []) ∨ (workV l0 x ≠ x ∧ stepsL l0 c (workV l0 x) = some rest')) := by
    by_cases hwx : workV l0 x = x
    ·rw [if_pos hwx] at hl; cases hl; exact ⟨[], rfl, Or.inl ⟨hwx, rfl⟩⟩
    ·rw [if_neg hwx] at hl
     obtain ⟨r', hr', e⟩ := Option.map_eq_some_iff.1 hl
     exact ⟨r', e.symm, Or.inr ⟨hwx, hr'⟩⟩
   subst hrest
   have HCS := Lib.hid hcase
   have hlen : pre.length < xs.length := by rw [HX.out]; simp
   obtain ⟨fn, tmps, assign, body, hy, hR⟩ := HY.out pre x wr HJ0.out hlen
   have HR1 := Lib.hid hR
   have c1 : wr.cell? ⟨Bx, 0, none⟩ = some (.int .i64 x) := (blk_cell HA.out.hx 0).trans rfl
   clear hl hcase hlen hR
   gi_wp2
   refine ⟨fun _ => by have := HN.out; omega, HR1.out.mono ?_⟩
   rintro e W3 (⟨rfl, hJ3, hk3⟩ | ⟨rfl, hJx3⟩)
   ·have HA3 : Hid (StepsAt w W3 A c0 l0 Bl Bx Bn x) := by
     obtain ⟨h1, h2, h3, h4, h5, h6, h7, h8, h9⟩ := HA.out
     obtain ⟨k1, k2, k3, k4⟩ := hk3
     exact ⟨k2.trans h1, k3.trans h2, k4.trans h3, h4, h5, h6, h7, h8, h9.trans k1⟩
    have HJ3 := Lib.hid hJ3
    have c3 : W3.cell? ⟨Bn, 0, none⟩ = some (.func (.func 118) #[] #[.pointer (some ⟨Bx, 0, none⟩), .pointer (some ⟨Bl, 0, none⟩)]) := (blk_cell HA3.out.hn 0).trans rfl
    clear hJ3 hk3
    have hvb : (workV l0 x != x) = true ∨ (workV l0 x != x) = false := by cases (workV l0 x != x) <;> simp
    have HCn := Lib.hid (stepsNext.calls A c0 l0 Bl Bx Bn x w W3 HR0.out HC0.out HA3.out)
    obtain ⟨y, hy2⟩ : ∃ y, workV l0 x = y := ⟨_, rfl⟩
    rw [hy2] at HCn HCS hvb
    have HY2 := Lib.hid hy2
    clear hy2
    have post : ∀ (W1 : World), Below W3.heap.size W3 W1 → StepsAt w (W1.setCell ⟨Bx, 0, none⟩ (.int .i64 y)) A c0 l0 Bl Bx Bn y ∧ J (pre ++ [x]) (W1.setCell ⟨Bx, 0, none⟩ (.int .i64 y)) := by
     intro W1 hb1
     obtain ⟨h1, h2, h3, h4, h5, h6, h7, h8, h9⟩ := HA3.out
     refine ⟨⟨blk_far (blk_below h1 hb1) h7 _, by simpa using blk_set (blk_below h2 hb1) 0 (.int .i64 y), blk_far (blk_below h3 hb1) h8 _, h4, h5, h6, h7, h8, (below_step h9 hb1).setCell (p := ⟨Bx, 0, none⟩) h5 _⟩, ?_⟩
     refine HJ.out _ W1 _ (some Bx) (HJ.out _ W3 W1 none HJ3.out (grown_of_below hb1 none) (fun r e => by cases e)) ?_ (fun r e => by cases e; rfl)
     exact PxR.grown_set W1 ⟨Bx, 0, none⟩ _
    have HP := Lib.hid post
    clear post
    rcases hvb with hv | hv
    ·rw [hv] at HCn
     have HV := Lib.hid hv
     clear hv
     gi_wp2
     refine ⟨trivial, fun _ => by have := HN.out; omega, (callsIn_wide.2 HCn.out).mono ?_⟩
     rintro e W4 ⟨rfl, W5, hb5, rfl⟩
     have HP5 := Lib.hid (HP.out W5 hb5)
     clear hb5
     gi_wp2
     go_roundw
     case rel =>
      rcases HCS.out with ⟨e1, e2⟩ | ⟨e1, e2⟩
      ·exact absurd (bne_iff_ne.1 HV.out) (by simp [e1])
      ·exact ⟨pre ++ [x], y, c, rest', HP5.out.1, ⟨e2, by have := HL.out.2; omega⟩, by show xs = _; rw [HX.out]; simp, HP5.out.2⟩
     case measure =>
      rcases HCS.out with ⟨e1, e2⟩ | ⟨e1, e2⟩
      ·exact absurd (bne_iff_ne.1 HV.out) (by simp [e1])
      ·rw [cellI_of HP5.out.1.hx, cellI_of HA.out.hx, stepsL_le (by have := HL.out.2; omega) e2, stepsL_le HL.out.2 HL.out.1]
       simp
    ·rw [hv] at HCn
     have HV := Lib.hid hv
     clear hv
     gi_wp2
     refine ⟨trivial, fun _ => by have := HN.out; omega, (callsIn_wide.2 HCn.out).mono ?_⟩
     rintro e W4 ⟨rfl, W5, hb5, rfl⟩
     have HP5 := Lib.hid (HP.out W5 hb5)
     clear hb5
     gi_wp2
     rw [Exit.noGoto_normal]
     go_end0
     rcases HCS.out with ⟨e1, e2⟩ | ⟨e1, e2⟩
     ·exact ⟨⟨_, rfl⟩, Or.inl ⟨xs, rfl, by rw [HX.out, e2]; exact HP5.out.2⟩⟩
     ·exact absurd HV.out (by simp [e1])
   ·gi_wp2
    rw [Exit.noGoto_normal]
    go_end0
    exact ⟨⟨_, rfl⟩, Or.inr ⟨pre ++ [x], ⟨rest', by rw [HX.out]; simp⟩, hJx3⟩⟩
def lastV (l : List Int) : Int := l.getLastD 0
theorem lastV_snoc (l : List Int) (x : Int) : lastV (l ++ [x]) = x := by simp [lastV]
def busy_Length.f (k : Nat) (l0 : List S31) : Option (Int × Int) := (busy_right.f k l0).bind fun e => if e = 0 then (if l0 = [] then some (0, 0) else (stepsL l0 k (sumF l0)).bind fun xs => some (lastV xs, 0)) else some (0, e)
theorem busy_Length.mono : ∀ a0 k, LeO (busy_Length.f k a0) (busy_Length.f (k + 1) a0) := by
 intro a0 k
 unfold busy_Length.f
 exact LeO.bind (busy_right.mono _ k) (fun e => LeO.ite (LeO.ite (LeO.refl _) (LeO.bind (stepsL_mono a0 k _) (fun _ => LeO.refl _))) (LeO.refl _))
theorem steps_rebase {w w2 W : World} {A : Option Addr} {c0 : Nat} {l0 : List S31} {Bl Bx Bn : Nat} {x : Int} (h : StepsAt w2 W A c0 l0 Bl Bx Bn x) (hb : Below w.heap.size w w2) : StepsAt w W A c0 l0 Bl Bx Bn x := by
 obtain ⟨h1, h2, h3, h4, h5, h6, h7, h8, h9⟩ := h
 exact ⟨h1, h2, h3, Nat.le_trans hb.size h4, Nat.le_trans hb.size h5, Nat.le_trans hb.size h6, h7, h8, below_step hb h9⟩
set_option maxHeartbeats 4000000 in
set_option maxRecDepth 100000 in
theorem busy_Length.calls (k : Nat) (A0 : Option Addr) (c0 : Nat) (l0 : List S31) (r1 r2 : Int) (w : World) (hr0 : Kd.C k31 w A0 l0.length l0) (hc0 : l0.length ≤ c0) (h : busy_Length.f k l0 = some (r1, r2)) :
  Calls Try.prog 72 #[.slice A0 l0.length c0] w fun e w' => e = .returned (.tuple #[.int .i64 r1, .int .i64 r2]) ∧ Below w.heap.size w w' := by
 have hu := Try.underlying31
 have hmax : l0.length ≤ 9223372036854775807 := Kd.C_max hr0
 unfold busy_Length.f at h
 obtain ⟨er, her, h⟩ := Option.bind_eq_some_iff.mp h
 have HR := Lib.hid (busy_right.calls k A0 c0 l0 er w hr0 hc0 her)
 have HR0 := Aside0.mk hr0
 have HC0 := Aside0.mk hc0
 clear hr0 hc0 her
 by_cases he : er = 0
 ·subst he
  rw [if_pos rfl] at h
  by_cases hl : l0 = []
  ·rw [if_pos hl] at h
   have HE := Lib.hid (Option.some.inj h)
   have hlz : ((l0.length : Int) == 0) = true := by rw [hl]; rfl
   clear h hl
   go_enter Try.func72, Try.ntmps72
   go_wp2_with (go_at_call 98; refine HR.out.mono ?_; rintro e w1 ⟨rfl, hb1⟩; have HB1 := Aside0.mk hb1; clear hb1)
   go_ret2
   exact ⟨by cases HE.out; rfl, HB1.out⟩
  ·rw [if_neg hl] at h
   obtain ⟨xs, hxs, h⟩ := Option.bind_eq_some_iff.mp h
   have HE := Lib.hid (Option.some.inj h)
   have hlz : ((l0.length : Int) == 0) = false := by have := List.length_pos_iff.2 hl; rw [beq_eq_false_iff_ne]; omega
   have HXS := Lib.hid hxs
   clear h hl hxs
   refine (callsIn_wide (n := 5)).1 ?_
   refine callsIn_of_wp_marks Try.func72 rfl trivial ?_ rfl
   simp only [Try.ntmps72, List.size_toArray, List.length_cons, List.length_nil, Nat.reduceAdd, Nat.reduceSub, Array.replicate_succ, Array.replicate_zero, List.push_toArray, List.append_toArray, List.nil_append, List.cons_append]
   gi_wp2
   refine ⟨trivial, (callsIn_wide.2 HR.out).mono ?_⟩
   rintro e w1 ⟨rfl, hb1⟩
   have HB1 := Aside0.mk hb1
   clear hb1
   gi_wp2
   refine ⟨trivial, (callsIn_wide.2 (stepsMake.calls A0 c0 l0 _ (Kd.C_alloc (Kd.C_below HR0.out HB1.out) _) HC0.out)).mono ?_⟩
   rintro e w2 ⟨Bl, Bx, Bn, rfl, hst⟩
   have HST := Lib.hid hst
   clear hst
   gi_wp2
   have hst := HST.out
   have hst2 := steps_rebase hst (below_alloc HB1.out _)
   have hbe : w2.heap[w1.heap.size]? = some (.cells #[.int .i64 0] 2 (0, 0)) := (hst.hb.block _ (by simp)).trans (by simpa using heap_alloc_new w1 _)
   have hw1 : w.heap.size ≤ w1.heap.size := HB1.out.size
   have sl : w1.heap.size < Bl := by have := hst.gl; simp at this; omega
   have sx : w1.heap.size < Bx := by have := hst.gx; simp at this; omega
   have sn : w1.heap.size < Bn := by have := hst.gn; simp at this; omega
   have zl : Bl < w2.heap.size := (Array.getElem?_eq_some_iff.1 hst.hl).1
   have zx : Bx < w2.heap.size := (Array.getElem?_eq_some_iff.1 hst.hx).1
   have zn : Bn < w2.heap.size := (Array.getElem?_eq_some_iff.1 hst.hn).1
   clear hst HST
   obtain ⟨be, hbeq⟩ : ∃ be, w1.heap.size = be := ⟨_, rfl⟩
   rw [hbeq] at hbe hw1 sl sx sn ⊢
   clear hbeq
   refine PxR.rangeX rfl (by omega) (gf := 120) (lb := #[.pointer (some ⟨Bx, 0, none⟩), .pointer (some ⟨Bn, 0, none⟩)]) rfl trivial (enters_of Try.func120 (by kernel_rfl) rfl) (steps_seq A0 c0 l0 w w2 HR0.out HC0.out Bl Bx Bn (sumF l0) hst2 k xs HXS.out 4 (by omega)) ?kt ?kb (Below.refl _ _) (fun _ => rfl) ?ok (fun pre W => Below w.heap.size w W ∧ W.heap[be]? = some (.cells #[.int .i64 (lastV pre)] 2 (0, 0))) (fun _ _ _ => False) ?hI ?hIx ⟨hst2.hb, hbe⟩ (fun x => { tmps := #[.slice A0 l0.length c0, undef, .int .i64 0, .int .i64 0, .int .i64 0, .pointer (some ⟨be, 0, none⟩), .int .i64 x, .slice A0 l0.length c0, .int .i64 0, .int .i64 0, .bool false, .bool false, .slice A0 l0.length c0, .int .i64 l0.length, .bool false, .bool false, undef, .slice A0 l0.length c0, .func (.func 120) #[] #[.pointer (some ⟨Bx, 0, none⟩), .pointer (some ⟨Bn, 0, none⟩)], .int .i64 x, undef, undef], defers := [] }) ?assign ?body ?done ?stop
   case kt => exact fun h k => ⟨h.1.trans k.1, k.2.1.trans h.2.1, k.2.2.1.trans h.2.2.1, k.2.2.2.trans h.2.2.2⟩
   case kb =>
    intro W o o' h _
    have hz := (Array.getElem?_eq_some_iff.1 h).1
    exact ⟨(Below.refl _ W).grown (grownBy_putObj' W _ o') (by omega) (fun k e => by cases e; omega), World.putObj_heap_other (by omega), World.putObj_heap_other (by omega), World.putObj_heap_other (by omega)⟩
   case ok => intro r hr; subst hr; omega
   case hI =>
    intro s A B row hs hgr hr
    have hz := (Array.getElem?_eq_some_iff.1 hs.2).1
    refine ⟨hs.1.grown hgr (by omega) (fun r e => ?_), PxR.blk_other hgr hs.2 (fun e => ?_)⟩
    ·rcases hr r e with h | ⟨h, _⟩
     ·have h' : r = Bx := h
      omega
     ·omega
    ·rcases hr be e.symm with h | ⟨h, _⟩
     ·have h' : be = Bx := h
      omega
     ·omega
   case hIx => exact fun _ _ _ _ _ hs _ _ => hs
   case assign =>
    intro l x W K hK
    gi_wp2_with (rw [Oper.semAt_eq _ _ _ (fun c h => by cases h)]; go_simp; try go_bits)
    exact hK
   case body =>
    rintro l pre x W ⟨hb, hc⟩ _
    have c1 : W.cell? ⟨be, 0, none⟩ = some (.int .i64 (lastV pre)) := (blk_cell hc 0).trans rfl
    have f1 : W.frozen? ⟨be, 0, none⟩ = false := blk_frozen hc 0
    gi_wp2_with (rw [Oper.semAt_eq _ _ _ (fun c h => by cases h)]; go_simp; try go_bits)
    exact ⟨KeepsOthers.setCell _ _ _, ⟨(Below.refl w.heap.size W).setCell (p := ⟨be, 0, none⟩) hw1 _, Below.heap_setCell W ⟨be, 0, none⟩ _ _ (by show _ ≠ be; omega), Below.heap_setCell W ⟨be, 0, none⟩ _ _ (by show _ ≠ be; omega), Below.heap_setCell W ⟨be, 0, none⟩ _ _ (by show _ ≠ be; omega)⟩, hb.setCell (p := ⟨be, 0, none⟩) hw1 _, by rw [lastV_snoc]; simpa using blk_set hc 0 (.int .i64 x)⟩
   case done =>
    rintro D ys W hD rfl ⟨hb, hc⟩ hK
    have c1 : W.cell? ⟨be, 0, none⟩ = some (.int .i64 (lastV ys)) := (blk_cell hc 0).trans rfl
    gi_wp2
    refine ⟨by simp, .inl ⟨_, _, rfl, run_takeDeferred hK, ?_⟩⟩
    have hz := (Array.getElem?_eq_some_iff.1 hK).1
    exact ⟨_, results_tmp2 rfl _ _ _, by cases HE.out; rfl, hb.grown (grownBy_putObj' W D (.deferred none)) (by omega) (fun k e => by cases e; omega)⟩
   case stop =>
    rintro D c pre W _ _ h _
    exact h.elim
 ·rw [if_neg he] at h
  have HE := Lib.hid (Option.some.inj h)
  have hne : (er != 0) = true := by simpa using he
  clear h he
  go_enter Try.func72, Try.ntmps72
  go_wp2_with (go_at_call 98; refine HR.out.mono ?_; rintro e w1 ⟨rfl, hb1⟩; have HB1 := Aside0.mk hb1; clear hb1)
  go_ret2
  exact ⟨by cases HE.out; rfl, HB1.out⟩

end Go.Proofs.Ythkagoomlmgcdaa.PJudgeFits
