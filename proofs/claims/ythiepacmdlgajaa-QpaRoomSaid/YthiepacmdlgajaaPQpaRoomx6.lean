-- Made by px.py (a program of this session, over the kit's printer) out of the translation. Not trusted: Lean checks it.
import Derived.Test.YthiepacmdlgajaaPQpaRoomx0
import Derived.Test.YthiepacmdlgajaaPQpaRoomx4
import Derived.Test.YthiepacmdlgajaaPQpaRoomx5
namespace Go.Proofs.Ythiepacmdlgajaa.PQpaRoom
open Go.RowKit Go.Proofs.YthiepacmdlgajaaW.PrintWords Go.Proofs.YthiepacmdlgajaaW.PrintLast Go.Proofs.YthiepacmdlgajaaW.PrintMore
attribute [local go_sem] max2_int min2_int max_two min_two max_three min_three max_four min_four   -- for this text's walks alone
set_option linter.unusedVariables false
set_option linter.unusedSimpArgs false

/-! ### qpa_Room: function 35 (by hand) -/
-- qpa_Test slices_Clone_api_Task
def fitsR.f (k : Nat) (a0 : Int) (a1_0 : Int) (a1_1 : Int) (a1_2 : Int) (a1_3 : Int) (a1_4 : Int) (l2 : List (S28)) : Option (Bool) := (slices_Clone_api_Task.f l2).bind fun t153 => ((some (([(⟨a1_0, a0, a1_2, a1_3, a1_4⟩ : S28)] : List (S28)) : List (S28))).bind fun y156 => (if t153.length + y156.length < 3518437208883 then ((qpa_Test.f k (t153 ++ y156)).bind fun t162 => (some (t162 == 0))) else (none)))
theorem fitsR.mono : ∀ a0 a1 a2 a3 a4 a5 a6 k, LeO (fitsR.f k a0 a1 a2 a3 a4 a5 a6) (fitsR.f (k + 1) a0 a1 a2 a3 a4 a5 a6) := by
  intro a0 a1 a2 a3 a4 a5 a6 k
  unfold fitsR.f
  repeat' first
      | (with_reducible exact qpa_Test.mono _ _)
      | (with_reducible exact LeO.refl _)
      | (with_reducible exact LeO.none _)
      | (with_reducible refine LeO.ite ?_ ?_)
      | (with_reducible refine LeO.bind ?_ (fun _ => ?_))
      | exact qpa_Test.mono _ _
      | exact LeO.none _
      | refine LeO.ite ?_ ?_
      | refine LeO.bind ?_ (fun _ => ?_)
def fitsR.T3 : Bool × List (List Nat × List Nat) := (true, [([], []), ([0], [0]), ([], []), ([2], [2]), ([1, 3, 1], [1, 3]), ([4, 4], [4]), ([5], [5]), ([6, 5, 0, 1, 2, 3, 4, 5, 6], [6])])
def fitsR.B3 : List Nat := [0, 1, 0, 4, 15, 31, 63, 127]
theorem fitsR.tab3 : rtab .any (opsOf Try.f58 3) = fitsR.T3 := by kernel_rfl
theorem fitsR.bits3 : waitsOk fitsR.T3.2 fitsR.B3 = true := by kernel_rfl
set_option maxHeartbeats 8000000 in
set_option maxRecDepth 100000 in
theorem fitsR.calls (k : Nat) (a0 : Int) (a1_0 : Int) (a1_1 : Int) (a1_2 : Int) (a1_3 : Int) (a1_4 : Int) (A2 : Option Addr) (c2 : Nat) (l2 : List (S28)) (r : Bool) (w : World) (gb151 gbl : Nat) (hbt : w.heap[gb151]? = some (.cells #[.int .i64 a1_0, .int .i64 a1_1, .int .i64 a1_2, .int .i64 a1_3, .int .i64 a1_4] 28 (0, 0))) (hbl : w.heap[gbl]? = some (.cells #[.slice A2 l2.length c2] 24 (0, 0))) (hr2 : Kd.C k28 w A2 l2.length l2) (hc2 : l2.length ≤ c2) (h : fitsR.f k a0 a1_0 a1_1 a1_2 a1_3 a1_4 l2 = some r) :
    Calls Try.prog 58 #[.int .i64 a0, .pointer (some ⟨gb151, 0, none⟩), .pointer (some ⟨gbl, 0, none⟩)] w fun e w' => e = .returned (.bool r) ∧ Below w.heap.size w w' := by
  have hu := Try.underlying28
  have HR2 := Aside0.mk hr2
  have HC2 := Aside0.mk hc2
  clear hr2 hc2
  have BK151 := Aside0.mk hbt
  have HLB := Aside0.mk hbl
  clear hbt hbl
  have HB := Aside0.mk (Below.refl w.heap.size w)
  have H : ((slices_Clone_api_Task.f l2).bind fun t153 => ((some (([(⟨a1_0, a0, a1_2, a1_3, a1_4⟩ : S28)] : List (S28)) : List (S28))).bind fun y156 => (if t153.length + y156.length < 3518437208883 then ((qpa_Test.f k (t153 ++ y156)).bind fun t162 => (some (t162 == 0))) else (none)))) = some r := h
  clear h
  replace H := Option.bind_eq_some_iff.mp H
  obtain ⟨t153, A40, H⟩ := H
  replace H : ((some (([(⟨a1_0, a0, a1_2, a1_3, a1_4⟩ : S28)] : List (S28)) : List (S28))).bind fun y156 => (if t153.length + y156.length < 3518437208883 then ((qpa_Test.f k (t153 ++ y156)).bind fun t162 => (some (t162 == 0))) else (none))) = some r := H
  have A4 := Aside0.mk A40
  clear A40
  obtain ⟨y156, hy156⟩ : ∃ y_ : List (S28), y_ = (([(⟨a1_0, a0, a1_2, a1_3, a1_4⟩ : S28)] : List (S28))) := ⟨_, rfl⟩
  replace H : (if t153.length + y156.length < 3518437208883 then ((qpa_Test.f k (t153 ++ y156)).bind fun t162 => (some (t162 == 0))) else (none)) = some r := by first | (rw [hy156]; with_reducible exact H) | (have H2_ := (Option.bind_some _ _).symm.trans H; rw [hy156]; with_reducible exact H2_) | (have H2_ := (Option.bind_some _ _).symm.trans H; with_reducible exact H2_) | with_reducible exact H | (rw [hy156]; exact H) | exact H
  have Ny156 := Aside0.mk hy156
  clear hy156
  by_cases c5 : t153.length + y156.length < 3518437208883
  · rw [if_pos c5] at H
    have LMc5 := Aside0.mk c5
    clear c5
    obtain ⟨y159, hy159⟩ : ∃ y_ : List (S28), y_ = (t153 ++ y156) := ⟨_, rfl⟩
    replace H : ((qpa_Test.f k y159).bind fun t162 => (some (t162 == 0))) = some r := by first | (rw [hy159]; with_reducible exact H) | (have H2_ := (Option.bind_some _ _).symm.trans H; rw [hy159]; with_reducible exact H2_) | (have H2_ := (Option.bind_some _ _).symm.trans H; with_reducible exact H2_) | with_reducible exact H | (rw [hy159]; exact H) | exact H
    have Ny159 := Aside0.mk hy159
    clear hy159
    replace H := Option.bind_eq_some_iff.mp H
    obtain ⟨t162, A60, H⟩ := H
    replace H : (some (t162 == 0)) = some r := H
    have A6 := Aside0.mk A60
    clear A60
    obtain rfl := Option.some.inj H
    go_enter Try.func58, Try.ntmps58
    have hcz8_0 : w.cell? ⟨gb151, 0, none⟩ = some (.int .i64 a1_0) := (blk_cell BK151.out 0).trans rfl
    have hfz8_0 := blk_frozen BK151.out 0
    have hcz8_1 : w.cell? ⟨gb151, 1, none⟩ = some (.int .i64 a1_1) := (blk_cell BK151.out 1).trans rfl
    have hfz8_1 := blk_frozen BK151.out 1
    have hcz8_2 : w.cell? ⟨gb151, 2, none⟩ = some (.int .i64 a1_2) := (blk_cell BK151.out 2).trans rfl
    have hfz8_2 := blk_frozen BK151.out 2
    have hcz8_3 : w.cell? ⟨gb151, 3, none⟩ = some (.int .i64 a1_3) := (blk_cell BK151.out 3).trans rfl
    have hfz8_3 := blk_frozen BK151.out 3
    have hcz8_4 : w.cell? ⟨gb151, 4, none⟩ = some (.int .i64 a1_4) := (blk_cell BK151.out 4).trans rfl
    have hfz8_4 := blk_frozen BK151.out 4
    try go_wp2_with (first | ((with_reducible refine gate_dst (N := 5) rfl ?_); refine box_event ?hg (N := 5) ?hd (cs := #[.int .i64 0, .int .i64 0, .int .i64 0, .int .i64 0, .int .i64 0]) (t := 28) ?hr ?_; (case hd => rfl); (case hg => rfl); (case hr => first | (go_simp; done) | (go_simp; rfl)); intro gb152 hg w9 hbox hb; have n0_ := Aside0.mk (blk_below (g := gb151) (by (with_reducible repeat (first | refine blk_drewN ?_ _ | refine blk_drew ?_ | refine blk_alloc ?_ _)); exact BK151.out) hb); have n1_ := Aside0.mk (below_step (by repeat (first | (with_reducible first | exact HB.out | apply below_alloc | apply pw_below_drewN | apply below_drew1 | refine below_set ?_ GE151.out) | exact HB.out)) hb); have n2_ := Aside0.mk (hbox); have n3_ := Aside0.mk ((by rw [hg]; exact (below_size (by repeat (first | (with_reducible first | exact HB.out | apply below_alloc | apply pw_below_drewN | apply below_drew1 | refine below_set ?_ GE151.out) | exact HB.out))) : w.heap.size ≤ gb152)); have n4_ := Aside0.mk ((by rw [hg]; exact (below_size (by repeat (first | (with_reducible first | exact HB.out | apply below_alloc | apply pw_below_drewN | apply below_drew1 | refine below_set ?_ GE151.out) | exact HB.out))) : w.heap.size ≤ gb152)); have n5_ := Aside0.mk ((by rw [hg]; exact Nat.ne_of_lt (blk_lt (g := gb151) (by (with_reducible repeat (first | refine blk_drewN ?_ _ | refine blk_drew ?_ | refine blk_alloc ?_ _)); exact BK151.out)) : gb151 ≠ gb152)); have n6_ := Aside0.mk ((by rw [hg]; exact Nat.ne_of_gt (blk_lt (g := gb151) (by (with_reducible repeat (first | refine blk_drewN ?_ _ | refine blk_drew ?_ | refine blk_alloc ?_ _)); exact BK151.out)) : gb152 ≠ gb151)); clear BK151; clear HB; have BK151 := n0_; have HB := n1_; have BK152 := n2_; have GW152 := n3_; have GE152 := n4_; have NB151_152 := n5_; have NB152_151 := n6_; clear n0_ n1_ n2_ n3_ n4_ n5_ n6_; clear hb hbox hg; have hnb10 := NB152_151.out; have hnc10 := NB151_152.out; have hcz11_0 : w9.cell? ⟨gb152, 0, none⟩ = some (.int .i64 0) := (blk_cell BK152.out 0).trans rfl; have hcz11_1 : w9.cell? ⟨gb152, 1, none⟩ = some (.int .i64 0) := (blk_cell BK152.out 1).trans rfl; have hcz11_2 : w9.cell? ⟨gb152, 2, none⟩ = some (.int .i64 0) := (blk_cell BK152.out 2).trans rfl; have hcz11_3 : w9.cell? ⟨gb152, 3, none⟩ = some (.int .i64 0) := (blk_cell BK152.out 3).trans rfl; have hcz11_4 : w9.cell? ⟨gb152, 4, none⟩ = some (.int .i64 0) := (blk_cell BK152.out 4).trans rfl; have hfz11_0 := blk_frozen BK152.out 0; have hfz11_1 := blk_frozen BK152.out 1; have hfz11_2 := blk_frozen BK152.out 2; have hfz11_3 := blk_frozen BK152.out 3; have hfz11_4 := blk_frozen BK152.out 4))
    have n0_ : Aside0 (((((((w9.setCell ⟨gb152, 0, none⟩ (.int .i64 a1_0)).setCell ⟨gb152, 1, none⟩ (.int .i64 a1_1)).setCell ⟨gb152, 2, none⟩ (.int .i64 a1_2)).setCell ⟨gb152, 3, none⟩ (.int .i64 a1_3)).setCell ⟨gb152, 4, none⟩ (.int .i64 a1_4)).setCell ⟨gb152, 1, none⟩ (.int .i64 a0)).heap[gb151]? = some (.cells #[.int .i64 a1_0, .int .i64 a1_1, .int .i64 a1_2, .int .i64 a1_3, .int .i64 a1_4] 28 (0, 0))) := ⟨by (with_reducible repeat (first | refine blk_drewN ?_ _ | refine blk_drew ?_ | refine blk_alloc ?_ _)); refine blk_far ?_ NB151_152.out _; (with_reducible repeat (first | refine blk_drewN ?_ _ | refine blk_drew ?_ | refine blk_alloc ?_ _)); refine blk_far ?_ NB151_152.out _; (with_reducible repeat (first | refine blk_drewN ?_ _ | refine blk_drew ?_ | refine blk_alloc ?_ _)); refine blk_far ?_ NB151_152.out _; (with_reducible repeat (first | refine blk_drewN ?_ _ | refine blk_drew ?_ | refine blk_alloc ?_ _)); refine blk_far ?_ NB151_152.out _; (with_reducible repeat (first | refine blk_drewN ?_ _ | refine blk_drew ?_ | refine blk_alloc ?_ _)); refine blk_far ?_ NB151_152.out _; (with_reducible repeat (first | refine blk_drewN ?_ _ | refine blk_drew ?_ | refine blk_alloc ?_ _)); refine blk_far ?_ NB151_152.out _; (with_reducible repeat (first | refine blk_drewN ?_ _ | refine blk_drew ?_ | refine blk_alloc ?_ _)); exact BK151.out⟩
    have n1_ : Aside0 (((((((w9.setCell ⟨gb152, 0, none⟩ (.int .i64 a1_0)).setCell ⟨gb152, 1, none⟩ (.int .i64 a1_1)).setCell ⟨gb152, 2, none⟩ (.int .i64 a1_2)).setCell ⟨gb152, 3, none⟩ (.int .i64 a1_3)).setCell ⟨gb152, 4, none⟩ (.int .i64 a1_4)).setCell ⟨gb152, 1, none⟩ (.int .i64 a0)).heap[gb152]? = some (.cells #[.int .i64 a1_0, .int .i64 a0, .int .i64 a1_2, .int .i64 a1_3, .int .i64 a1_4] 28 (0, 0))) := ⟨by (with_reducible repeat (first | refine blk_drewN ?_ _ | refine blk_drew ?_ | refine blk_alloc ?_ _)); refine blk_put (cs := #[.int .i64 a1_0, .int .i64 a1_1, .int .i64 a1_2, .int .i64 a1_3, .int .i64 a1_4]) ?_ 1 _ rfl; (with_reducible repeat (first | refine blk_drewN ?_ _ | refine blk_drew ?_ | refine blk_alloc ?_ _)); refine blk_put (cs := #[.int .i64 a1_0, .int .i64 a1_1, .int .i64 a1_2, .int .i64 a1_3, .int .i64 0]) ?_ 4 _ rfl; (with_reducible repeat (first | refine blk_drewN ?_ _ | refine blk_drew ?_ | refine blk_alloc ?_ _)); refine blk_put (cs := #[.int .i64 a1_0, .int .i64 a1_1, .int .i64 a1_2, .int .i64 0, .int .i64 0]) ?_ 3 _ rfl; (with_reducible repeat (first | refine blk_drewN ?_ _ | refine blk_drew ?_ | refine blk_alloc ?_ _)); refine blk_put (cs := #[.int .i64 a1_0, .int .i64 a1_1, .int .i64 0, .int .i64 0, .int .i64 0]) ?_ 2 _ rfl; (with_reducible repeat (first | refine blk_drewN ?_ _ | refine blk_drew ?_ | refine blk_alloc ?_ _)); refine blk_put (cs := #[.int .i64 a1_0, .int .i64 0, .int .i64 0, .int .i64 0, .int .i64 0]) ?_ 1 _ rfl; (with_reducible repeat (first | refine blk_drewN ?_ _ | refine blk_drew ?_ | refine blk_alloc ?_ _)); refine blk_put (cs := #[.int .i64 0, .int .i64 0, .int .i64 0, .int .i64 0, .int .i64 0]) ?_ 0 _ rfl; (with_reducible repeat (first | refine blk_drewN ?_ _ | refine blk_drew ?_ | refine blk_alloc ?_ _)); exact BK152.out⟩
    have n2_ : Aside0 (Below w.heap.size w ((((((w9.setCell ⟨gb152, 0, none⟩ (.int .i64 a1_0)).setCell ⟨gb152, 1, none⟩ (.int .i64 a1_1)).setCell ⟨gb152, 2, none⟩ (.int .i64 a1_2)).setCell ⟨gb152, 3, none⟩ (.int .i64 a1_3)).setCell ⟨gb152, 4, none⟩ (.int .i64 a1_4)).setCell ⟨gb152, 1, none⟩ (.int .i64 a0))) := ⟨by repeat (first | (with_reducible first | exact HB.out | apply below_alloc | apply pw_below_drewN | apply below_drew1 | refine below_set ?_ GE151.out | refine below_set ?_ GE152.out) | exact HB.out)⟩
    (try clear BK151)
    (try clear BK152)
    (try clear HB)
    generalize ((((((w9.setCell ⟨gb152, 0, none⟩ (.int .i64 a1_0)).setCell ⟨gb152, 1, none⟩ (.int .i64 a1_1)).setCell ⟨gb152, 2, none⟩ (.int .i64 a1_2)).setCell ⟨gb152, 3, none⟩ (.int .i64 a1_3)).setCell ⟨gb152, 4, none⟩ (.int .i64 a1_4)).setCell ⟨gb152, 1, none⟩ (.int .i64 a0)) = w12 at n0_ n1_ n2_ ⊢
    have BK151 := n0_
    have BK152 := n1_
    have HB := n2_
    clear n0_ n1_ n2_
    have n0_ := Aside0.mk (blk_drew BK151.out)
    have n1_ := Aside0.mk (blk_drew BK152.out)
    have n2_ := Aside0.mk (below_drew1 HB.out)
    clear BK151
    clear BK152
    clear HB
    have BK151 := n0_
    have BK152 := n1_
    have HB := n2_
    clear n0_ n1_ n2_
    refine start_ (n := 8) (S := fun w' => w'.cell? ⟨gb152, 0, none⟩ = some (.int .i64 a1_0) ∧ w'.cell? ⟨gb152, 1, none⟩ = some (.int .i64 a0) ∧ w'.cell? ⟨gb152, 2, none⟩ = some (.int .i64 a1_2) ∧ w'.cell? ⟨gb152, 3, none⟩ = some (.int .i64 a1_3) ∧ w'.cell? ⟨gb152, 4, none⟩ = some (.int .i64 a1_4) ∧ w'.cell? ⟨gbl, 0, none⟩ = some (.slice A2 l2.length c2)) (ds := []) #[false, false, false, false, false, false, false, false] (by kernel_rfl) rfl rfl ⟨(blk_cell BK152.out 0).trans rfl, (blk_cell BK152.out 1).trans rfl, (blk_cell BK152.out 2).trans rfl, (blk_cell BK152.out 3).trans rfl, (blk_cell BK152.out 4).trans rfl, (blk_cell (blk_below HLB.out HB.out) 0).trans rfl⟩ (fun hHeld => ?_); refine with_tabW fitsR.tab3 fitsR.bits3 (fun HT_ HW_ => ?_)
    generalize w12.drew = w13 at BK151 BK152 HB hHeld ⊢
    refine take_ (i := 0) (N := some 9) (v := ?_) (a' := ?_) #[true, false, false, false, false, false, false, false] rfl rfl (take_ofW HT_.out HW_.out (by kernel_rfl)) (fun _ _ _ h => h) (Or.inl ⟨by rfl, ?_⟩) hHeld ?_ ?_
    rotate_left
    · rintro w' ⟨s0, s1, s2, s3, s4, s5⟩
      go_simp
      with_reducible rfl
    rotate_left
    · simp only [Act.put, List.setIfInBounds_toArray, List.set_cons_zero, List.set_cons_succ, i64_w, i32_w]
      rfl
    refine take_ (i := 2) (N := some 11) (v := ?_) (a' := ?_) #[true, false, true, false, false, false, false, false] rfl rfl (take_ofW HT_.out HW_.out (by kernel_rfl)) (fun _ _ _ h => h) (Or.inl ⟨by rfl, ?_⟩) hHeld ?_ ?_
    rotate_left
    · rintro w' ⟨s0, s1, s2, s3, s4, s5⟩
      go_simp
      with_reducible rfl
    rotate_left
    · simp only [Act.put, List.setIfInBounds_toArray, List.set_cons_zero, List.set_cons_succ, i64_w, i32_w]
      rfl
    refine join_ (σ := Value × Value) 4 #[true, true, true, true, false, false, false, false] (fun s_ => [(10, s_.1), (12, s_.2)]) (fun s_ w' => (w'.cell? ⟨gb152, 0, none⟩ = some (.int .i64 a1_0) ∧ w'.cell? ⟨gb152, 1, none⟩ = some (.int .i64 a0) ∧ w'.cell? ⟨gb152, 2, none⟩ = some (.int .i64 a1_2) ∧ w'.cell? ⟨gb152, 3, none⟩ = some (.int .i64 a1_3) ∧ w'.cell? ⟨gb152, 4, none⟩ = some (.int .i64 a1_4) ∧ w'.cell? ⟨gbl, 0, none⟩ = some (.slice A2 l2.length c2)) ∧ (Kd.R k28 28 w' w.heap.size (fun k_ => some k_ ≠ (s_.2 : Value).ownBlock ∧ k_ ≠ gb151 ∧ k_ ≠ gb152) s_.1 t153) ∧ (Kd.R k28 28 w' w.heap.size (fun k_ => some k_ ≠ (s_.1 : Value).ownBlock ∧ k_ ≠ gb151 ∧ k_ ≠ gb152) s_.2 y156) ∧ (w'.heap[gb151]? = some (.cells #[.int .i64 a1_0, .int .i64 a1_1, .int .i64 a1_2, .int .i64 a1_3, .int .i64 a1_4] 28 (0, 0))) ∧ (w'.heap[gb152]? = some (.cells #[.int .i64 a1_0, .int .i64 a0, .int .i64 a1_2, .int .i64 a1_3, .int .i64 a1_4] 28 (0, 0))) ∧ (Below w.heap.size w w')) ?_ ?_
    rotate_left
    · intro hCont
      refine two_ (i := 1) (j := 3) (Ni := some 10) (Nj := some 12) #[true, true, true, false, false, false, false, false] #[true, false, true, true, false, false, false, false] rfl rfl rfl rfl (two_of HT_.out (by kernel_rfl)) (by decide) (by decide) (fun K hK => ?_) (fun K hK => ?_)
      · skip
        refine goes_ Try.func59 (by kernel_rfl) rfl #[.slice A2 l2.length c2] (by rfl) rfl rfl (by (try simp only [List.map_toArray, List.map_cons, List.map_nil]); first | done | rfl | (simp only [List.length_drop, List.length_take]; rfl)) ?_
        with_reducible refine (slices_Clone_api_Task.calls _ _ l2 t153 _ ?side1 ?side2 A4.out).mono ?_
        (case side1 => repeat (first | exact (Kd.C_below HR2.out HB.out) | (with_reducible refine Kd.C_alloc ?_ _) | (with_reducible refine Kd.C_drewN ?_ _) | (with_reducible refine Kd.C_drew ?_)))
        (case side2 => exact HC2.out)
        rintro e w14 ⟨v154, rfl, ho0, hb⟩
        refine ⟨_, rfl, ?_⟩
        have n0_ := Aside0.mk (Kd.R_lower (Kd.R_newB (Kd.R_newB ho0 (g := gb151) (by (with_reducible repeat (first | refine blk_drewN ?_ _ | refine blk_drew ?_ | refine blk_alloc ?_ _)); exact BK151.out)) (g := gb152) (by (with_reducible repeat (first | refine blk_drewN ?_ _ | refine blk_drew ?_ | refine blk_alloc ?_ _)); exact BK152.out)) (below_size (by repeat (first | (with_reducible first | exact HB.out | apply below_alloc | apply pw_below_drewN | apply below_drew1 | refine below_set ?_ GE151.out | refine below_set ?_ GE152.out) | exact HB.out))))
        have n1_ := Aside0.mk (blk_below (g := gb151) (by (with_reducible repeat (first | refine blk_drewN ?_ _ | refine blk_drew ?_ | refine blk_alloc ?_ _)); exact BK151.out) hb)
        have n2_ := Aside0.mk (blk_below (g := gb152) (by (with_reducible repeat (first | refine blk_drewN ?_ _ | refine blk_drew ?_ | refine blk_alloc ?_ _)); exact BK152.out) hb)
        have n3_ := Aside0.mk (below_step (by repeat (first | (with_reducible first | exact HB.out | apply below_alloc | apply pw_below_drewN | apply below_drew1 | refine below_set ?_ GE151.out | refine below_set ?_ GE152.out) | exact HB.out)) hb)
        clear BK151
        clear BK152
        clear HB
        have HO155 := n0_
        have BK151 := n1_
        have BK152 := n2_
        have HB := n3_
        clear n0_ n1_ n2_ n3_
        (try clear hb)
        (try clear hb2)
        (try clear hk)
        (try clear hi)
        (try clear ho0)
        refine hK.out _ _ ⟨(blk_cell BK152.out 0).trans rfl, (blk_cell BK152.out 1).trans rfl, (blk_cell BK152.out 2).trans rfl, (blk_cell BK152.out 3).trans rfl, (blk_cell BK152.out 4).trans rfl, (blk_cell (blk_below HLB.out HB.out) 0).trans rfl⟩ (fun hHeld => ?_)
        clear hK K
        refine norm_ (a' := ?_) ?_ ?_
        rotate_left
        · show Act.put _ (some 10) _ = _
          simp only [Act.put, List.setIfInBounds_toArray, List.set_cons_zero, List.set_cons_succ, i64_w, i32_w]
          rfl
        refine one_ (i := 3) (N := some 12) #[true, true, true, true, false, false, false, false] rfl rfl (one_of HT_.out (by kernel_rfl)) (by decide) (fun K hK => ?_)
        refine Kd.R_lit_step k28 _ 28 ?hg (N := 12) ?hd (xs := ([(⟨a1_0, a0, a1_2, a1_3, a1_4⟩ : S28)] : List (S28))) (inner := [.int .i64 a1_0, .int .i64 a0, .int .i64 a1_2, .int .i64 a1_3, .int .i64 a1_4]) (ok := fun _ => True) (okp := fun _ => True) ?hr ?hp (fun _ hk => hk) trivial (Below.refl _ _) (Nat.le_refl _) (by simp) ?_; (case hd => rfl); (case hg => rfl); (case hr => first | (go_simp; done) | (go_simp; rfl)); (case hp => exact (Reps.c5 (show Kd.M k28 _ _ _ (⟨a1_0, a0, a1_2, a1_3, a1_4⟩ : S28) [.int .i64 a1_0, .int .i64 a0, .int .i64 a1_2, .int .i64 a1_3, .int .i64 a1_4] from (k28_mkM _ _ _ (⟨a1_0, a0, a1_2, a1_3, a1_4⟩ : S28) )) (Reps.none _ _)))
        intro v157 w15 ho16 hb hg_ hnew_
        clear hg_ hnew_
        (first | rw [← Ny156.out] at ho16 | (simp only [Int.reduceToNat] at ho16; rw [← Ny156.out] at ho16))
        have n0_ := Aside0.mk (Kd.R_elder' (by (with_reducible repeat (first | apply Kd.R_alloc | apply Kd.R_drewN | apply Kd.R_drew)); exact HO155.out) (Kd.R_base ho16) hb)
        have n1_ := Aside0.mk (Kd.R_lower (Kd.R_newB (Kd.R_newB (Kd.R_new' ho16 (Kd.R_lt (by (with_reducible repeat (first | apply Kd.R_alloc | apply Kd.R_drewN | apply Kd.R_drew)); exact HO155.out))) (g := gb151) (by (with_reducible repeat (first | refine blk_drewN ?_ _ | refine blk_drew ?_ | refine blk_alloc ?_ _)); exact BK151.out)) (g := gb152) (by (with_reducible repeat (first | refine blk_drewN ?_ _ | refine blk_drew ?_ | refine blk_alloc ?_ _)); exact BK152.out)) (below_size (by repeat (first | (with_reducible first | exact HB.out | apply below_alloc | apply pw_below_drewN | apply below_drew1 | refine below_set ?_ GE151.out | refine below_set ?_ GE152.out) | exact HB.out))))
        have n2_ := Aside0.mk (blk_below (g := gb151) (by (with_reducible repeat (first | refine blk_drewN ?_ _ | refine blk_drew ?_ | refine blk_alloc ?_ _)); exact BK151.out) hb)
        have n3_ := Aside0.mk (blk_below (g := gb152) (by (with_reducible repeat (first | refine blk_drewN ?_ _ | refine blk_drew ?_ | refine blk_alloc ?_ _)); exact BK152.out) hb)
        have n4_ := Aside0.mk (below_step (by repeat (first | (with_reducible first | exact HB.out | apply below_alloc | apply pw_below_drewN | apply below_drew1 | refine below_set ?_ GE151.out | refine below_set ?_ GE152.out) | exact HB.out)) hb)
        clear HO155
        clear BK151
        clear BK152
        clear HB
        have HO155 := n0_
        have HO158 := n1_
        have BK151 := n2_
        have BK152 := n3_
        have HB := n4_
        clear n0_ n1_ n2_ n3_ n4_
        clear hb ho16
        refine hK.out _ _ ⟨(blk_cell BK152.out 0).trans rfl, (blk_cell BK152.out 1).trans rfl, (blk_cell BK152.out 2).trans rfl, (blk_cell BK152.out 3).trans rfl, (blk_cell BK152.out 4).trans rfl, (blk_cell (blk_below HLB.out HB.out) 0).trans rfl⟩ (fun hHeld => ?_)
        clear hK K
        refine norm_ (a' := ?_) ?_ ?_
        rotate_left
        · show Act.put _ (some 12) _ = _
          simp only [Act.put, List.setIfInBounds_toArray, List.set_cons_zero, List.set_cons_succ, i64_w, i32_w]
          rfl
        exact norm_ (by simp only [putAll, Act.put, List.setIfInBounds_toArray, List.set_cons_zero, List.set_cons_succ]) (hCont (v154, v157) _ ⟨hHeld, (by (with_reducible repeat (first | apply Kd.R_alloc | apply Kd.R_drewN | apply Kd.R_drew)); exact Kd.R_mono HO155.out (fun _ hk => ⟨hk.2, ⟨hk.1.1.2, hk.1.2⟩⟩)), (by (with_reducible repeat (first | apply Kd.R_alloc | apply Kd.R_drewN | apply Kd.R_drew)); exact Kd.R_mono HO158.out (fun _ hk => ⟨hk.1.1.2, ⟨hk.1.2, hk.2⟩⟩)), (by (with_reducible repeat (first | refine blk_drewN ?_ _ | refine blk_drew ?_ | refine blk_alloc ?_ _)); exact BK151.out), (by (with_reducible repeat (first | refine blk_drewN ?_ _ | refine blk_drew ?_ | refine blk_alloc ?_ _)); exact BK152.out), (by repeat (first | (with_reducible first | exact HB.out | apply below_alloc | apply pw_below_drewN | apply below_drew1 | refine below_set ?_ GE151.out | refine below_set ?_ GE152.out) | exact HB.out))⟩)
      · skip
        refine Kd.R_lit_step k28 _ 28 ?hg (N := 12) ?hd (xs := ([(⟨a1_0, a0, a1_2, a1_3, a1_4⟩ : S28)] : List (S28))) (inner := [.int .i64 a1_0, .int .i64 a0, .int .i64 a1_2, .int .i64 a1_3, .int .i64 a1_4]) (ok := fun _ => True) (okp := fun _ => True) ?hr ?hp (fun _ hk => hk) trivial (Below.refl _ _) (Nat.le_refl _) (by simp) ?_; (case hd => rfl); (case hg => rfl); (case hr => first | (go_simp; done) | (go_simp; rfl)); (case hp => exact (Reps.c5 (show Kd.M k28 _ _ _ (⟨a1_0, a0, a1_2, a1_3, a1_4⟩ : S28) [.int .i64 a1_0, .int .i64 a0, .int .i64 a1_2, .int .i64 a1_3, .int .i64 a1_4] from (k28_mkM _ _ _ (⟨a1_0, a0, a1_2, a1_3, a1_4⟩ : S28) )) (Reps.none _ _)))
        intro v157 w14 ho15 hb hg_ hnew_
        clear hg_ hnew_
        (first | rw [← Ny156.out] at ho15 | (simp only [Int.reduceToNat] at ho15; rw [← Ny156.out] at ho15))
        have n0_ := Aside0.mk (Kd.R_lower (Kd.R_newB (Kd.R_newB ho15 (g := gb151) (by (with_reducible repeat (first | refine blk_drewN ?_ _ | refine blk_drew ?_ | refine blk_alloc ?_ _)); exact BK151.out)) (g := gb152) (by (with_reducible repeat (first | refine blk_drewN ?_ _ | refine blk_drew ?_ | refine blk_alloc ?_ _)); exact BK152.out)) (below_size (by repeat (first | (with_reducible first | exact HB.out | apply below_alloc | apply pw_below_drewN | apply below_drew1 | refine below_set ?_ GE151.out | refine below_set ?_ GE152.out) | exact HB.out))))
        have n1_ := Aside0.mk (blk_below (g := gb151) (by (with_reducible repeat (first | refine blk_drewN ?_ _ | refine blk_drew ?_ | refine blk_alloc ?_ _)); exact BK151.out) hb)
        have n2_ := Aside0.mk (blk_below (g := gb152) (by (with_reducible repeat (first | refine blk_drewN ?_ _ | refine blk_drew ?_ | refine blk_alloc ?_ _)); exact BK152.out) hb)
        have n3_ := Aside0.mk (below_step (by repeat (first | (with_reducible first | exact HB.out | apply below_alloc | apply pw_below_drewN | apply below_drew1 | refine below_set ?_ GE151.out | refine below_set ?_ GE152.out) | exact HB.out)) hb)
        clear BK151
        clear BK152
        clear HB
        have HO158 := n0_
        have BK151 := n1_
        have BK152 := n2_
        have HB := n3_
        clear n0_ n1_ n2_ n3_
        clear hb ho15
        refine hK.out _ _ ⟨(blk_cell BK152.out 0).trans rfl, (blk_cell BK152.out 1).trans rfl, (blk_cell BK152.out 2).trans rfl, (blk_cell BK152.out 3).trans rfl, (blk_cell BK152.out 4).trans rfl, (blk_cell (blk_below HLB.out HB.out) 0).trans rfl⟩ (fun hHeld => ?_)
        clear hK K
        refine norm_ (a' := ?_) ?_ ?_
        rotate_left
        · show Act.put _ (some 12) _ = _
          simp only [Act.put, List.setIfInBounds_toArray, List.set_cons_zero, List.set_cons_succ, i64_w, i32_w]
          rfl
        refine one_ (i := 1) (N := some 10) #[true, true, true, true, false, false, false, false] rfl rfl (one_of HT_.out (by kernel_rfl)) (by decide) (fun K hK => ?_)
        refine goes_ Try.func59 (by kernel_rfl) rfl #[.slice A2 l2.length c2] (by rfl) rfl rfl (by (try simp only [List.map_toArray, List.map_cons, List.map_nil]); first | done | rfl | (simp only [List.length_drop, List.length_take]; rfl)) ?_
        with_reducible refine (slices_Clone_api_Task.calls _ _ l2 t153 _ ?side1 ?side2 A4.out).mono ?_
        (case side1 => repeat (first | exact (Kd.C_below HR2.out HB.out) | (with_reducible refine Kd.C_alloc ?_ _) | (with_reducible refine Kd.C_drewN ?_ _) | (with_reducible refine Kd.C_drew ?_)))
        (case side2 => exact HC2.out)
        rintro e w16 ⟨v154, rfl, ho0, hb⟩
        refine ⟨_, rfl, ?_⟩
        have n0_ := Aside0.mk (Kd.R_elder' (by (with_reducible repeat (first | apply Kd.R_alloc | apply Kd.R_drewN | apply Kd.R_drew)); exact HO158.out) (Kd.R_base ho0) hb)
        have n1_ := Aside0.mk (Kd.R_lower (Kd.R_newB (Kd.R_newB (Kd.R_new' ho0 (Kd.R_lt (by (with_reducible repeat (first | apply Kd.R_alloc | apply Kd.R_drewN | apply Kd.R_drew)); exact HO158.out))) (g := gb151) (by (with_reducible repeat (first | refine blk_drewN ?_ _ | refine blk_drew ?_ | refine blk_alloc ?_ _)); exact BK151.out)) (g := gb152) (by (with_reducible repeat (first | refine blk_drewN ?_ _ | refine blk_drew ?_ | refine blk_alloc ?_ _)); exact BK152.out)) (below_size (by repeat (first | (with_reducible first | exact HB.out | apply below_alloc | apply pw_below_drewN | apply below_drew1 | refine below_set ?_ GE151.out | refine below_set ?_ GE152.out) | exact HB.out))))
        have n2_ := Aside0.mk (blk_below (g := gb151) (by (with_reducible repeat (first | refine blk_drewN ?_ _ | refine blk_drew ?_ | refine blk_alloc ?_ _)); exact BK151.out) hb)
        have n3_ := Aside0.mk (blk_below (g := gb152) (by (with_reducible repeat (first | refine blk_drewN ?_ _ | refine blk_drew ?_ | refine blk_alloc ?_ _)); exact BK152.out) hb)
        have n4_ := Aside0.mk (below_step (by repeat (first | (with_reducible first | exact HB.out | apply below_alloc | apply pw_below_drewN | apply below_drew1 | refine below_set ?_ GE151.out | refine below_set ?_ GE152.out) | exact HB.out)) hb)
        clear HO158
        clear BK151
        clear BK152
        clear HB
        have HO158 := n0_
        have HO155 := n1_
        have BK151 := n2_
        have BK152 := n3_
        have HB := n4_
        clear n0_ n1_ n2_ n3_ n4_
        (try clear hb)
        (try clear hb2)
        (try clear hk)
        (try clear hi)
        (try clear ho0)
        refine hK.out _ _ ⟨(blk_cell BK152.out 0).trans rfl, (blk_cell BK152.out 1).trans rfl, (blk_cell BK152.out 2).trans rfl, (blk_cell BK152.out 3).trans rfl, (blk_cell BK152.out 4).trans rfl, (blk_cell (blk_below HLB.out HB.out) 0).trans rfl⟩ (fun hHeld => ?_)
        clear hK K
        refine norm_ (a' := ?_) ?_ ?_
        rotate_left
        · show Act.put _ (some 10) _ = _
          simp only [Act.put, List.setIfInBounds_toArray, List.set_cons_zero, List.set_cons_succ, i64_w, i32_w]
          rfl
        exact norm_ (by simp only [putAll, Act.put, List.setIfInBounds_toArray, List.set_cons_zero, List.set_cons_succ]) (hCont (v154, v157) _ ⟨hHeld, (by (with_reducible repeat (first | apply Kd.R_alloc | apply Kd.R_drewN | apply Kd.R_drew)); exact Kd.R_mono HO155.out (fun _ hk => ⟨hk.1.1.2, ⟨hk.1.2, hk.2⟩⟩)), (by (with_reducible repeat (first | apply Kd.R_alloc | apply Kd.R_drewN | apply Kd.R_drew)); exact Kd.R_mono HO158.out (fun _ hk => ⟨hk.2, ⟨hk.1.1.2, hk.1.2⟩⟩)), (by (with_reducible repeat (first | refine blk_drewN ?_ _ | refine blk_drew ?_ | refine blk_alloc ?_ _)); exact BK151.out), (by (with_reducible repeat (first | refine blk_drewN ?_ _ | refine blk_drew ?_ | refine blk_alloc ?_ _)); exact BK152.out), (by repeat (first | (with_reducible first | exact HB.out | apply below_alloc | apply pw_below_drewN | apply below_drew1 | refine below_set ?_ GE151.out | refine below_set ?_ GE152.out) | exact HB.out))⟩)
    rintro ⟨v154, v157⟩ w17 ⟨hS_, h0_, h1_, h2_, h3_, h4_⟩
    have n0_ : Aside0 (Kd.R k28 28 w17 w.heap.size (fun k_ => some k_ ≠ (v157 : Value).ownBlock ∧ k_ ≠ gb151 ∧ k_ ≠ gb152) v154 t153) := ⟨h0_⟩
    have n1_ : Aside0 (Kd.R k28 28 w17 w.heap.size (fun k_ => some k_ ≠ (v154 : Value).ownBlock ∧ k_ ≠ gb151 ∧ k_ ≠ gb152) v157 y156) := ⟨h1_⟩
    have n2_ : Aside0 (w17.heap[gb151]? = some (.cells #[.int .i64 a1_0, .int .i64 a1_1, .int .i64 a1_2, .int .i64 a1_3, .int .i64 a1_4] 28 (0, 0))) := ⟨h2_⟩
    have n3_ : Aside0 (w17.heap[gb152]? = some (.cells #[.int .i64 a1_0, .int .i64 a0, .int .i64 a1_2, .int .i64 a1_3, .int .i64 a1_4] 28 (0, 0))) := ⟨h3_⟩
    have n4_ : Aside0 (Below w.heap.size w w17) := ⟨h4_⟩
    clear BK151
    clear BK152
    clear HB
    clear h0_ h1_ h2_ h3_ h4_
    have HO155 := n0_
    have HO158 := n1_
    have BK151 := n2_
    have BK152 := n3_
    have HB := n4_
    clear n0_ n1_ n2_ n3_ n4_
    have hHeld : w17.cell? ⟨gb152, 0, none⟩ = some (.int .i64 a1_0) ∧ w17.cell? ⟨gb152, 1, none⟩ = some (.int .i64 a0) ∧ w17.cell? ⟨gb152, 2, none⟩ = some (.int .i64 a1_2) ∧ w17.cell? ⟨gb152, 3, none⟩ = some (.int .i64 a1_3) ∧ w17.cell? ⟨gb152, 4, none⟩ = some (.int .i64 a1_4) ∧ w17.cell? ⟨gbl, 0, none⟩ = some (.slice A2 l2.length c2) := hS_
    obtain ⟨Ao19, co19, eo19⟩ := Kd.R_slice HO158.out
    (first | subst eo19 | (injection eo19 with f1_ f2_ f3_; have f4_ := f1_.symm; have f5_ := f3_.symm; clear f1_ f2_ f3_; subst f4_; subst f5_))
    refine norm_ (a' := ?_) ?_ ?_
    rotate_left
    · simp only [putAll, Act.put, List.setIfInBounds_toArray, List.set_cons_zero, List.set_cons_succ]
      rfl
    refine one_ (i := 4) (N := some 13) #[true, true, true, true, true, false, false, false] rfl rfl (one_of HT_.out (by kernel_rfl)) (by decide) (fun K hK => ?_)
    refine Kd.R_append_rows_step k28 (w0 := w) w.heap.size (by rfl) (.tmp 10) (.tmp 12) 24 28 (.agg #[(.int .i64 0), (.int .i64 0), (.int .i64 0), (.int .i64 0), (.int .i64 0)]) 40 rfl Try.underlying24 info28 rfl (by decide) (by omega) v154 t153 y156 _ _ _ (fun k_ => some k_ ≠ (.slice Ao19 y156.length co19 : Value).ownBlock ∧ k_ ≠ gb151 ∧ k_ ≠ gb152) (fun _ => False) rfl rfl ?aO ?aR (fun _ _ h => h) (fun _ h => h.elim) ?aF ?aB ?aS ?aL ?_
    (case aR => repeat (first | exact (Kd.R_reads' HO158.out).2.2 | (with_reducible refine Kd.C_alloc ?_ _) | (with_reducible refine Kd.C_drewN ?_ _) | (with_reducible refine Kd.C_drew ?_)))
    (case aB => exact (by repeat (first | (with_reducible first | exact HB.out | apply below_alloc | apply pw_below_drewN | apply below_drew1 | refine below_set ?_ GE151.out | refine below_set ?_ GE152.out) | exact HB.out)))
    (case aF => exact (fun k_ hk => ⟨Kd.fresh' (Kd.R_lt (by (with_reducible repeat (first | apply Kd.R_alloc | apply Kd.R_drewN | apply Kd.R_drew)); exact HO158.out)) k_ hk, Kd.freshB (g := gb151) (by (with_reducible repeat (first | refine blk_drewN ?_ _ | refine blk_drew ?_ | refine blk_alloc ?_ _)); exact BK151.out) k_ hk, Kd.freshB (g := gb152) (by (with_reducible repeat (first | refine blk_drewN ?_ _ | refine blk_drew ?_ | refine blk_alloc ?_ _)); exact BK152.out) k_ hk⟩))
    (case aO => exact (by (with_reducible repeat (first | apply Kd.R_alloc | apply Kd.R_drewN | apply Kd.R_drew)); exact HO155.out))
    (case aS => exact (below_size (by repeat (first | (with_reducible first | exact HB.out | apply below_alloc | apply pw_below_drewN | apply below_drew1 | refine below_set ?_ GE151.out | refine below_set ?_ GE152.out) | exact HB.out))))
    (case aL => have := LMc5.out; omega)
    intro v160 w18 ho hb hg hat
    rw [← Ny159.out] at ho
    have n0_ := Aside0.mk (blk_grown (g := gb151) (by (with_reducible repeat (first | refine blk_drewN ?_ _ | refine blk_drew ?_ | refine blk_alloc ?_ _)); exact BK151.out) hg (Kd.R_away HO155.out (fun _ hk => hk.2.1)))
    have n1_ := Aside0.mk (blk_grown (g := gb152) (by (with_reducible repeat (first | refine blk_drewN ?_ _ | refine blk_drew ?_ | refine blk_alloc ?_ _)); exact BK152.out) hg (Kd.R_away HO155.out (fun _ hk => hk.2.2)))
    have n2_ := Aside0.mk (Kd.R_after (ok := (fun k_ => k_ ≠ gb151 ∧ k_ ≠ gb152)) (by (with_reducible repeat (first | apply Kd.R_alloc | apply Kd.R_drewN | apply Kd.R_drew)); exact Kd.R_mono HO158.out (fun _ hk => ⟨⟨hk.2.1, hk.2.2⟩, hk.1⟩)) hg hat)
    have n3_ := Aside0.mk (hb)
    have n4_ := Aside0.mk (ho)
    clear BK151
    clear BK152
    clear HO158
    clear HB
    clear HO155
    have BK151 := n0_
    have BK152 := n1_
    have HO158 := n2_
    have HB := n3_
    have HO161 := n4_
    clear n0_ n1_ n2_ n3_ n4_
    clear ho hb hg hat
    obtain ⟨Ao20, co20, eo20⟩ := Kd.R_slice HO161.out
    (first | subst eo20 | (injection eo20 with f1_ f2_ f3_; have f4_ := f1_.symm; have f5_ := f3_.symm; clear f1_ f2_ f3_; subst f4_; subst f5_))
    refine hK.out _ _ ⟨(blk_cell BK152.out 0).trans rfl, (blk_cell BK152.out 1).trans rfl, (blk_cell BK152.out 2).trans rfl, (blk_cell BK152.out 3).trans rfl, (blk_cell BK152.out 4).trans rfl, (blk_cell (blk_below HLB.out HB.out) 0).trans rfl⟩ (fun hHeld => ?_)
    clear hK K
    refine norm_ (a' := ?_) ?_ ?_
    rotate_left
    · show Act.put _ (some 13) _ = _
      simp only [Act.put, List.setIfInBounds_toArray, List.set_cons_zero, List.set_cons_succ, i64_w, i32_w]
      rfl
    refine one_ (i := 5) (N := some 14) #[true, true, true, true, true, true, false, false] rfl rfl (one_of HT_.out (by kernel_rfl)) (by decide) (fun K hK => ?_)
    refine goes_ Try.func29 (by kernel_rfl) rfl #[.slice Ao20 y159.length co20] (by rfl) rfl rfl (by (try simp only [List.map_toArray, List.map_cons, List.map_nil]); first | done | rfl | (simp only [List.length_drop, List.length_take]; rfl)) ?_
    with_reducible refine (qpa_Test.calls k _ _ y159 t162 _ ?side1 ?side2 A6.out).mono ?_
    (case side1 => repeat (first | exact (Kd.R_reads' HO161.out).2.2 | (with_reducible refine Kd.C_alloc ?_ _) | (with_reducible refine Kd.C_drewN ?_ _) | (with_reducible refine Kd.C_drew ?_)))
    (case side2 => exact (Kd.R_reads' HO161.out).2.1)
    rintro e w21 ⟨rfl, hb⟩
    refine ⟨_, rfl, ?_⟩
    have n0_ := Aside0.mk (Kd.R_below (by (with_reducible repeat (first | apply Kd.R_alloc | apply Kd.R_drewN | apply Kd.R_drew)); exact HO158.out) hb)
    have n1_ := Aside0.mk (Kd.R_below (by (with_reducible repeat (first | apply Kd.R_alloc | apply Kd.R_drewN | apply Kd.R_drew)); exact HO161.out) hb)
    have n2_ := Aside0.mk (blk_below (g := gb151) (by (with_reducible repeat (first | refine blk_drewN ?_ _ | refine blk_drew ?_ | refine blk_alloc ?_ _)); exact BK151.out) hb)
    have n3_ := Aside0.mk (blk_below (g := gb152) (by (with_reducible repeat (first | refine blk_drewN ?_ _ | refine blk_drew ?_ | refine blk_alloc ?_ _)); exact BK152.out) hb)
    have n4_ := Aside0.mk (below_step (by repeat (first | (with_reducible first | exact HB.out | apply below_alloc | apply pw_below_drewN | apply below_drew1 | refine below_set ?_ GE151.out | refine below_set ?_ GE152.out) | exact HB.out)) hb)
    clear HO158
    clear HO161
    clear BK151
    clear BK152
    clear HB
    have HO158 := n0_
    have HO161 := n1_
    have BK151 := n2_
    have BK152 := n3_
    have HB := n4_
    clear n0_ n1_ n2_ n3_ n4_
    (try clear hb)
    (try clear hb2)
    (try clear hk)
    (try clear hi)
    refine hK.out _ _ ⟨(blk_cell BK152.out 0).trans rfl, (blk_cell BK152.out 1).trans rfl, (blk_cell BK152.out 2).trans rfl, (blk_cell BK152.out 3).trans rfl, (blk_cell BK152.out 4).trans rfl, (blk_cell (blk_below HLB.out HB.out) 0).trans rfl⟩ (fun hHeld => ?_)
    clear hK K
    refine norm_ (a' := ?_) ?_ ?_
    rotate_left
    · show Act.put _ (some 14) _ = _
      simp only [Act.put, List.setIfInBounds_toArray, List.set_cons_zero, List.set_cons_succ, i64_w, i32_w]
      rfl
    refine pure_ (i := 6) (N := some 15) (v := ?_) (a' := ?_) #[true, true, true, true, true, true, true, false] rfl rfl (any_of HT_.out (by kernel_rfl)) (fun _ _ _ h => h) (Or.inl ⟨by rfl, ?_⟩) ?_ ?_
    rotate_left
    · intro w'
      go_simp
      with_reducible rfl
    rotate_left
    · simp only [Act.put, List.setIfInBounds_toArray, List.set_cons_zero, List.set_cons_succ, i64_w, i32_w]
      rfl
    refine pure_ (i := 7) (N := some 4) (v := ?_) (a' := ?_) #[true, true, true, true, true, true, true, true] rfl rfl (any_of HT_.out (by kernel_rfl)) (fun _ _ _ h => h) (Or.inl ⟨by rfl, ?_⟩) ?_ ?_
    rotate_left
    · intro w'
      go_simp
      with_reducible rfl
    rotate_left
    · simp only [Act.put, List.setIfInBounds_toArray, List.set_cons_zero, List.set_cons_succ, i64_w, i32_w]
      rfl
    refine done_ (done_of HT_.out (by kernel_rfl)) ?_
    try go_wp2
    go_ret
    exact ⟨by first | rfl | (simp [errW_none, errW_some] <;> rfl) | (simp [*, errW_none, errW_some] <;> rfl), by repeat (first | (with_reducible first | exact HB.out | apply below_alloc | apply pw_below_drewN | apply below_drew1 | refine below_set ?_ GE151.out | refine below_set ?_ GE152.out) | exact HB.out)⟩
  · rw [if_neg c5] at H
    exact absurd H (by simp)
/-- The halves of what may fit. -/
def halves (l0 : List S28) (a1_0 a1_1 a1_2 a1_3 a1_4 : Int) : Nat → Int → Int → Option Int
  | 0, _, _ => none
  | k + 1, x6_1, x7_1 => if x6_1 ≥ x7_1 then some x6_1 else (fitsR.f k (wrap64 (x6_1 + wrap64 (Int.tdiv (wrap64 (wrap64 (x7_1 - x6_1) + 1)) 2))) a1_0 a1_1 a1_2 a1_3 a1_4 l0).bind fun b => if b = true then halves l0 a1_0 a1_1 a1_2 a1_3 a1_4 k (wrap64 (x6_1 + wrap64 (Int.tdiv (wrap64 (wrap64 (x7_1 - x6_1) + 1)) 2))) x7_1 else halves l0 a1_0 a1_1 a1_2 a1_3 a1_4 k x6_1 (wrap64 (wrap64 (x6_1 + wrap64 (Int.tdiv (wrap64 (wrap64 (x7_1 - x6_1) + 1)) 2)) - 1))
theorem halves_mono (l0 : List S28) (a1_0 a1_1 a1_2 a1_3 a1_4 : Int) : ∀ k x y, LeO (halves l0 a1_0 a1_1 a1_2 a1_3 a1_4 k x y) (halves l0 a1_0 a1_1 a1_2 a1_3 a1_4 (k + 1) x y)
  | 0, _, _ => fun r h => by simp [halves] at h
  | k + 1, x, y => by
    unfold halves
    exact LeO.ite (LeO.refl _) (LeO.bind (fitsR.mono _ _ _ _ _ _ _ k) (fun _ => LeO.ite (halves_mono l0 a1_0 a1_1 a1_2 a1_3 a1_4 k _ _) (halves_mono l0 a1_0 a1_1 a1_2 a1_3 a1_4 k _ _)))
def qpa_Room.f (k : Nat) (l0 : List S28) (a1_0 a1_1 a1_2 a1_3 a1_4 : Int) : Option Int := (qpa_Test.f k l0).bind fun t164 => if t164 = 0 then halves l0 a1_0 a1_1 a1_2 a1_3 a1_4 k 0 (if a1_2 < 0 then 0 else a1_2) else some 0
theorem qpa_Room.mono : ∀ a0 a1 a2 a3 a4 a5 k, LeO (qpa_Room.f k a0 a1 a2 a3 a4 a5) (qpa_Room.f (k + 1) a0 a1 a2 a3 a4 a5) := by
  intro a0 a1 a2 a3 a4 a5 k
  unfold qpa_Room.f
  exact LeO.bind (qpa_Test.mono _ k) (fun _ => LeO.ite (halves_mono _ _ _ _ _ _ k _ _) (LeO.refl _))
set_option maxHeartbeats 8000000 in
set_option maxRecDepth 100000 in
theorem qpa_Room.calls (k : Nat) (A0 : Option Addr) (c0 : Nat) (l0 : List S28) (a1_0 a1_1 a1_2 a1_3 a1_4 : Int) (r : Int) (w : World) (hr0 : Kd.C k28 w A0 l0.length l0) (hc0 : l0.length ≤ c0) (h : qpa_Room.f k l0 a1_0 a1_1 a1_2 a1_3 a1_4 = some r) :
    Calls Try.prog 35 #[.slice A0 l0.length c0, .agg #[.int .i64 a1_0, .int .i64 a1_1, .int .i64 a1_2, .int .i64 a1_3, .int .i64 a1_4]] w fun e w' => e = .returned (.int .i64 r) ∧ Below w.heap.size w w' := by
  have hu := Try.underlying28
  have HR0 := Aside0.mk hr0
  have HC0 := Aside0.mk hc0
  clear hr0 hc0
  have HB := Aside0.mk (Below.refl w.heap.size w)
  unfold qpa_Room.f at h
  obtain ⟨t164, A30, H⟩ := Option.bind_eq_some_iff.mp h
  have A3 := Aside0.mk A30
  clear A30 h
  have HH := Aside0.mk H
  clear H
  go_enter Try.func35, Try.ntmps35
  go_wp2_with (first | ((with_reducible refine gate_dst (N := 2) rfl ?_); refine box_event ?hg (N := 2) ?hd (cs := #[.slice A0 l0.length c0]) (t := 24) ?hr ?_; (case hd => rfl); (case hg => rfl); (case hr => first | (go_simp; done) | (go_simp; rfl)); intro gbl hg wl hbox hb; have n0_ := Aside0.mk (below_step (by repeat (first | (with_reducible first | exact HB.out | apply below_alloc | apply pw_below_drewN | apply below_drew1) | exact HB.out)) hb); have n1_ := Aside0.mk hbox; clear HB; have HB := n0_; have BKL := n1_; clear n0_ n1_; clear hb hbox hg) | ((with_reducible refine gate_dst (N := 3) rfl ?_); refine box_event ?hg (N := 3) ?hd (cs := #[.int .i64 a1_0, .int .i64 a1_1, .int .i64 a1_2, .int .i64 a1_3, .int .i64 a1_4]) (t := 28) ?hr ?_; (case hd => rfl); (case hg => rfl); (case hr => first | (go_simp; done) | (go_simp; rfl)); intro gbt hg w3 hbox hb; have n0_ := Aside0.mk (below_step (by repeat (first | (with_reducible first | exact HB.out | apply below_alloc | apply pw_below_drewN | apply below_drew1) | exact HB.out)) hb); have n1_ := Aside0.mk hbox; have n2_ := Aside0.mk (blk_below (g := gbl) (by (with_reducible repeat (first | refine blk_drewN ?_ _ | refine blk_drew ?_ | refine blk_alloc ?_ _)); exact BKL.out) hb); clear HB; clear BKL; have HB := n0_; have BKT := n1_; have BKL := n2_; clear n0_ n1_ n2_; have HX := Aside0.mk (Below.refl w3.heap.size w3); clear hb hbox hg; have hczl : w3.cell? ⟨gbl, 0, none⟩ = some (.slice A0 l0.length c0) := (blk_cell BKL.out 0).trans rfl; have hfzl := blk_frozen BKL.out 0))
  go_step3
  have H := HH.out
  clear HH
  by_cases c4 : t164 = 0
  · rw [if_pos c4] at H
    have c4b0 : (t164 == 0) = true := beq_iff_eq.mpr c4
    have c4b1 : (t164 != 0) = false := bne_eq_false_iff_eq.mpr c4
    clear c4
    obtain ⟨ji5, hji5⟩ : ∃ j_ : Int, (if a1_2 < 0 then 0 else a1_2) = j_ := ⟨_, rfl⟩
    rw [hji5] at H
    have H' := Aside0.mk H
    clear H
    go_wp2_with (go_at_call 29; (with_reducible refine (qpa_Test.calls k _ _ l0 t164 _ ?side1 ?side2 A3.out).mono ?_); (case side1 => repeat (first | exact (Kd.C_below HR0.out HB.out) | (with_reducible refine Kd.C_alloc ?_ _) | (with_reducible refine Kd.C_drewN ?_ _) | (with_reducible refine Kd.C_drew ?_))); (case side2 => exact HC0.out); rintro e w4 ⟨rfl, hb⟩; have n0_ := Aside0.mk (below_step (by repeat (first | (with_reducible first | exact HB.out | apply below_alloc | apply pw_below_drewN | apply below_drew1) | exact HB.out)) hb); have n1_ := Aside0.mk (blk_below (g := gbl) (by (with_reducible repeat (first | refine blk_drewN ?_ _ | refine blk_drew ?_ | refine blk_alloc ?_ _)); exact BKL.out) hb); have n2_ := Aside0.mk (blk_below (g := gbt) (by (with_reducible repeat (first | refine blk_drewN ?_ _ | refine blk_drew ?_ | refine blk_alloc ?_ _)); exact BKT.out) hb); clear HB HX BKL BKT; have HB := n0_; have BKL := n1_; have BKT := n2_; clear n0_ n1_ n2_; clear hczl hfzl; clear hb; have hcz8_2 : w4.cell? ⟨gbt, 2, none⟩ = some (.int .i64 a1_2) := (blk_cell BKT.out 2).trans rfl)
    repeat (go_quiet (fail); try go_wp2)
    go_step3
    try simp only [Exit.then]
    go_wp2
    go_loopg [6, 7] k (fun kq v6 v7 w' => ∃ (x6_1 : Int) (x7_1 : Int), v6 = .int .i64 x6_1 ∧ v7 = .int .i64 x7_1 ∧ Aside0 (halves l0 a1_0 a1_1 a1_2 a1_3 a1_4 kq x6_1 x7_1 = some r) ∧ Aside0 (kq ≤ k) ∧ Aside0 (w'.heap[gbt]? = some (.cells #[.int .i64 a1_0, .int .i64 a1_1, .int .i64 a1_2, .int .i64 a1_3, .int .i64 a1_4] 28 (0, 0))) ∧ Aside0 (w'.heap[gbl]? = some (.cells #[.slice A0 l0.length c0] 24 (0, 0))) ∧ Aside0 (Below w.heap.size w w'))
    case atStart => exact ⟨0, ji5, rfl, rfl, H', ⟨Nat.le_refl _⟩, ⟨(by (with_reducible repeat (first | refine blk_drewN ?_ _ | refine blk_drew ?_ | refine blk_alloc ?_ _)); exact BKT.out)⟩, ⟨(by (with_reducible repeat (first | refine blk_drewN ?_ _ | refine blk_drew ?_ | refine blk_alloc ?_ _)); exact BKL.out)⟩, ⟨(by repeat (first | (with_reducible first | exact HB.out | apply below_alloc | apply pw_below_drewN | apply below_drew1) | exact HB.out))⟩⟩
    case round =>
      clear H'
      obtain ⟨x6_1, x7_1, rfl, rfl, HA, HK1, BKT, BKL, HB⟩ := hrel
      cases gk with
      | zero => exact absurd HA.out (by simp [halves])
      | succ k1 =>
        have H := HA.out
        clear HA
        simp only [halves] at H
        by_cases c9 : x6_1 ≥ x7_1
        · rw [if_pos c9] at H
          have c9b0 : decide (x7_1 ≤ x6_1) = true := decide_eq_true c9
          clear c9
          obtain rfl := Option.some.inj H
          go_wp2
          repeat (go_quiet (fail); try go_wp2)
          go_ret
          exact ⟨rfl, (by repeat (first | (with_reducible first | exact HB.out | apply below_alloc | apply pw_below_drewN | apply below_drew1) | exact HB.out))⟩
        · rw [if_neg c9] at H
          have c9b0 : decide (x7_1 ≤ x6_1) = false := decide_eq_false c9
          clear c9
          obtain ⟨t165, A100, H⟩ := Option.bind_eq_some_iff.mp H
          have A10 := Aside0.mk A100
          clear A100
          by_cases c11 : t165 = true
          · subst c11
            rw [if_pos rfl] at H
            have H' := Aside0.mk H
            clear H
            go_wp2_with (go_at_call 58; (with_reducible refine (fitsR.calls k1 (wrap64 (x6_1 + wrap64 (Int.tdiv (wrap64 (wrap64 (x7_1 - x6_1) + 1)) 2))) a1_0 a1_1 a1_2 a1_3 a1_4 A0 c0 l0 true _ gbt gbl ?bt ?bl ?side1 ?side2 A10.out).mono ?_); (case bt => exact (by (with_reducible repeat (first | refine blk_drewN ?_ _ | refine blk_drew ?_ | refine blk_alloc ?_ _)); exact BKT.out)); (case bl => exact (by (with_reducible repeat (first | refine blk_drewN ?_ _ | refine blk_drew ?_ | refine blk_alloc ?_ _)); exact BKL.out)); (case side1 => repeat (first | exact (Kd.C_below HR0.out HB.out) | (with_reducible refine Kd.C_alloc ?_ _) | (with_reducible refine Kd.C_drewN ?_ _) | (with_reducible refine Kd.C_drew ?_))); (case side2 => exact HC0.out); rintro e w5 ⟨rfl, hb⟩; have n0_ := Aside0.mk (below_step (by repeat (first | (with_reducible first | exact HB.out | apply below_alloc | apply pw_below_drewN | apply below_drew1) | exact HB.out)) hb); have n1_ := Aside0.mk (blk_below (g := gbl) (by (with_reducible repeat (first | refine blk_drewN ?_ _ | refine blk_drew ?_ | refine blk_alloc ?_ _)); exact BKL.out) hb); have n2_ := Aside0.mk (blk_below (g := gbt) (by (with_reducible repeat (first | refine blk_drewN ?_ _ | refine blk_drew ?_ | refine blk_alloc ?_ _)); exact BKT.out) hb); clear HB BKL BKT; have HB := n0_; have BKL := n1_; have BKT := n2_; clear n0_ n1_ n2_; clear hb)
            go_roundg k1
            case measure => have := HK1.out; omega
            case rel => exact ⟨(wrap64 (x6_1 + wrap64 (Int.tdiv (wrap64 (wrap64 (x7_1 - x6_1) + 1)) 2))), (x7_1), (by first | rfl | (simp only [i64_w]; done) | (simp; done) | (simp [*]; done)), (by first | rfl | (simp only [i64_w]; done) | (simp; done) | (simp [*]; done)), H', ⟨by have := HK1.out; omega⟩, ⟨(by (with_reducible repeat (first | refine blk_drewN ?_ _ | refine blk_drew ?_ | refine blk_alloc ?_ _)); exact BKT.out)⟩, ⟨(by (with_reducible repeat (first | refine blk_drewN ?_ _ | refine blk_drew ?_ | refine blk_alloc ?_ _)); exact BKL.out)⟩, ⟨(by repeat (first | (with_reducible first | exact HB.out | apply below_alloc | apply pw_below_drewN | apply below_drew1) | exact HB.out))⟩⟩
          · replace c11 := Bool.eq_false_iff.mpr c11
            subst c11
            rw [if_neg (show ¬ (false = true) by decide)] at H
            have H' := Aside0.mk H
            clear H
            go_wp2_with (go_at_call 58; (with_reducible refine (fitsR.calls k1 (wrap64 (x6_1 + wrap64 (Int.tdiv (wrap64 (wrap64 (x7_1 - x6_1) + 1)) 2))) a1_0 a1_1 a1_2 a1_3 a1_4 A0 c0 l0 false _ gbt gbl ?bt ?bl ?side1 ?side2 A10.out).mono ?_); (case bt => exact (by (with_reducible repeat (first | refine blk_drewN ?_ _ | refine blk_drew ?_ | refine blk_alloc ?_ _)); exact BKT.out)); (case bl => exact (by (with_reducible repeat (first | refine blk_drewN ?_ _ | refine blk_drew ?_ | refine blk_alloc ?_ _)); exact BKL.out)); (case side1 => repeat (first | exact (Kd.C_below HR0.out HB.out) | (with_reducible refine Kd.C_alloc ?_ _) | (with_reducible refine Kd.C_drewN ?_ _) | (with_reducible refine Kd.C_drew ?_))); (case side2 => exact HC0.out); rintro e w5 ⟨rfl, hb⟩; have n0_ := Aside0.mk (below_step (by repeat (first | (with_reducible first | exact HB.out | apply below_alloc | apply pw_below_drewN | apply below_drew1) | exact HB.out)) hb); have n1_ := Aside0.mk (blk_below (g := gbl) (by (with_reducible repeat (first | refine blk_drewN ?_ _ | refine blk_drew ?_ | refine blk_alloc ?_ _)); exact BKL.out) hb); have n2_ := Aside0.mk (blk_below (g := gbt) (by (with_reducible repeat (first | refine blk_drewN ?_ _ | refine blk_drew ?_ | refine blk_alloc ?_ _)); exact BKT.out) hb); clear HB BKL BKT; have HB := n0_; have BKL := n1_; have BKT := n2_; clear n0_ n1_ n2_; clear hb)
            go_roundg k1
            case measure => have := HK1.out; omega
            case rel => exact ⟨(x6_1), (wrap64 (wrap64 (x6_1 + wrap64 (Int.tdiv (wrap64 (wrap64 (x7_1 - x6_1) + 1)) 2)) - 1)), (by first | rfl | (simp only [i64_w]; done) | (simp; done) | (simp [*]; done)), (by first | rfl | (simp only [i64_w]; done) | (simp; done) | (simp [*]; done)), H', ⟨by have := HK1.out; omega⟩, ⟨(by (with_reducible repeat (first | refine blk_drewN ?_ _ | refine blk_drew ?_ | refine blk_alloc ?_ _)); exact BKT.out)⟩, ⟨(by (with_reducible repeat (first | refine blk_drewN ?_ _ | refine blk_drew ?_ | refine blk_alloc ?_ _)); exact BKL.out)⟩, ⟨(by repeat (first | (with_reducible first | exact HB.out | apply below_alloc | apply pw_below_drewN | apply below_drew1) | exact HB.out))⟩⟩
  · rw [if_neg c4] at H
    have c4b0 : (t164 == 0) = false := beq_eq_false_iff_ne.mpr c4
    have c4b1 : (t164 != 0) = true := bne_iff_ne.mpr c4
    obtain rfl := Option.some.inj H
    go_wp2_with (go_at_call 29; (with_reducible refine (qpa_Test.calls k _ _ l0 t164 _ ?side1 ?side2 A3.out).mono ?_); (case side1 => repeat (first | exact (Kd.C_below HR0.out HB.out) | (with_reducible refine Kd.C_alloc ?_ _) | (with_reducible refine Kd.C_drewN ?_ _) | (with_reducible refine Kd.C_drew ?_))); (case side2 => exact HC0.out); rintro e w4 ⟨rfl, hb⟩; have n0_ := Aside0.mk (below_step (by repeat (first | (with_reducible first | exact HB.out | apply below_alloc | apply pw_below_drewN | apply below_drew1) | exact HB.out)) hb); have n1_ := Aside0.mk (blk_below (g := gbl) (by (with_reducible repeat (first | refine blk_drewN ?_ _ | refine blk_drew ?_ | refine blk_alloc ?_ _)); exact BKL.out) hb); have n2_ := Aside0.mk (blk_below (g := gbt) (by (with_reducible repeat (first | refine blk_drewN ?_ _ | refine blk_drew ?_ | refine blk_alloc ?_ _)); exact BKT.out) hb); clear HB HX BKL BKT; have HB := n0_; have BKL := n1_; have BKT := n2_; clear n0_ n1_ n2_; clear hczl hfzl; clear hb; have hcz8_2 : w4.cell? ⟨gbt, 2, none⟩ = some (.int .i64 a1_2) := (blk_cell BKT.out 2).trans rfl)
    try rw [Exit.noGoto_ret]
    go_ret
    exact ⟨rfl, (by repeat (first | (with_reducible first | exact HB.out | apply below_alloc | apply pw_below_drewN | apply below_drew1) | exact HB.out))⟩

/-! ### horariumref09_Check: function 44 -/
def horariumref09_Check.f (a0_0 : Int) (a0_1 : Int) (a0_2 : Int) (a0_3 : Int) (a0_4 : Int) : Option (Bool) := if a0_0 ≥ 0 then (if a0_0 ≤ 1023 then (if a0_1 ≥ 1 then (if a0_1 ≤ a0_2 then (if a0_2 ≤ a0_3 then (if a0_3 ≤ 2147483648 then (if a0_4 ≥ 1 then (some (decide (a0_4 ≤ 15))) else (some false)) else (some false)) else (some false)) else (some false)) else (some false)) else (some false)) else (some false)
set_option maxHeartbeats 8000000 in
set_option maxRecDepth 100000 in
theorem horariumref09_Check.calls (a0_0 : Int) (a0_1 : Int) (a0_2 : Int) (a0_3 : Int) (a0_4 : Int) (r : Bool) (w : World) (h : horariumref09_Check.f a0_0 a0_1 a0_2 a0_3 a0_4 = some r) :
    Calls Try.prog 44 #[.agg #[.int .i64 a0_0, .int .i64 a0_1, .int .i64 a0_2, .int .i64 a0_3, .int .i64 a0_4]] w fun e w' => e = .returned (.bool r) ∧ Below w.heap.size w w' := by
  have hu28 := Try.underlying28
  have HB := Aside0.mk (Below.refl w.heap.size w)
  have H : (if a0_0 ≥ 0 then (if a0_0 ≤ 1023 then (if a0_1 ≥ 1 then (if a0_1 ≤ a0_2 then (if a0_2 ≤ a0_3 then (if a0_3 ≤ 2147483648 then (if a0_4 ≥ 1 then (some (decide (a0_4 ≤ 15))) else (some false)) else (some false)) else (some false)) else (some false)) else (some false)) else (some false)) else (some false)) = some r := h
  clear h
  by_cases c2 : a0_0 ≥ 0
  · rw [if_pos c2] at H
    have c2b0 : decide (0 ≤ a0_0) = true := decide_eq_true c2
    clear c2
    by_cases c3 : a0_0 ≤ 1023
    · rw [if_pos c3] at H
      have c3b0 : decide (a0_0 ≤ 1023) = true := decide_eq_true c3
      clear c3
      by_cases c4 : a0_1 ≥ 1
      · rw [if_pos c4] at H
        have c4b0 : decide (1 ≤ a0_1) = true := decide_eq_true c4
        clear c4
        by_cases c5 : a0_1 ≤ a0_2
        · rw [if_pos c5] at H
          have c5b0 : decide (a0_1 ≤ a0_2) = true := decide_eq_true c5
          clear c5
          by_cases c6 : a0_2 ≤ a0_3
          · rw [if_pos c6] at H
            have c6b0 : decide (a0_2 ≤ a0_3) = true := decide_eq_true c6
            clear c6
            by_cases c7 : a0_3 ≤ 2147483648
            · rw [if_pos c7] at H
              have c7b0 : decide (a0_3 ≤ 2147483648) = true := decide_eq_true c7
              clear c7
              by_cases c8 : a0_4 ≥ 1
              · rw [if_pos c8] at H
                have c8b0 : decide (1 ≤ a0_4) = true := decide_eq_true c8
                clear c8
                obtain rfl := Option.some.inj H
                go_enter Try.func44, Try.ntmps44
                go_wp2_with (first | ((with_reducible refine gate_dst (N := 1) rfl ?_); refine box_event ?hg (N := 1) ?hd (cs := #[.int .i64 a0_0, .int .i64 a0_1, .int .i64 a0_2, .int .i64 a0_3, .int .i64 a0_4]) (t := 28) ?hr ?_; (case hd => rfl); (case hg => rfl); (case hr => first | (go_simp; done) | (go_simp; rfl)); intro gb145 hg w9 hbox hb; have n0_ := Aside0.mk (below_step (by repeat (first | (with_reducible first | exact HB.out | apply below_alloc | apply pw_below_drewN | apply below_drew1) | exact HB.out)) hb); have n1_ := Aside0.mk (hbox); have n2_ := Aside0.mk ((by rw [hg]; exact (below_size (by repeat (first | (with_reducible first | exact HB.out | apply below_alloc | apply pw_below_drewN | apply below_drew1) | exact HB.out))) : w.heap.size ≤ gb145)); have n3_ := Aside0.mk ((by rw [hg]; exact (below_size (by repeat (first | (with_reducible first | exact HB.out | apply below_alloc | apply pw_below_drewN | apply below_drew1) | exact HB.out))) : w.heap.size ≤ gb145)); clear HB; have HB := n0_; have BK145 := n1_; have GW145 := n2_; have GE145 := n3_; clear n0_ n1_ n2_ n3_; clear hb hbox hg; have hcz10_0 : w9.cell? ⟨gb145, 0, none⟩ = some (.int .i64 a0_0) := (blk_cell BK145.out 0).trans rfl; have hcz10_1 : w9.cell? ⟨gb145, 1, none⟩ = some (.int .i64 a0_1) := (blk_cell BK145.out 1).trans rfl; have hcz10_2 : w9.cell? ⟨gb145, 2, none⟩ = some (.int .i64 a0_2) := (blk_cell BK145.out 2).trans rfl; have hcz10_3 : w9.cell? ⟨gb145, 3, none⟩ = some (.int .i64 a0_3) := (blk_cell BK145.out 3).trans rfl; have hcz10_4 : w9.cell? ⟨gb145, 4, none⟩ = some (.int .i64 a0_4) := (blk_cell BK145.out 4).trans rfl; have hfz10_0 := blk_frozen BK145.out 0; have hfz10_1 := blk_frozen BK145.out 1; have hfz10_2 := blk_frozen BK145.out 2; have hfz10_3 := blk_frozen BK145.out 3; have hfz10_4 := blk_frozen BK145.out 4))
                go_ret
                exact ⟨by first | rfl | (simp [errW_none, errW_some] <;> rfl) | (simp [*, errW_none, errW_some] <;> rfl), by repeat (first | (with_reducible first | exact HB.out | apply below_alloc | apply pw_below_drewN | apply below_drew1 | refine below_set ?_ GE145.out) | exact HB.out)⟩
              · rw [if_neg c8] at H
                have c8b0 : decide (1 ≤ a0_4) = false := decide_eq_false c8
                clear c8
                obtain rfl := Option.some.inj H
                go_enter Try.func44, Try.ntmps44
                go_wp2_with (first | ((with_reducible refine gate_dst (N := 1) rfl ?_); refine box_event ?hg (N := 1) ?hd (cs := #[.int .i64 a0_0, .int .i64 a0_1, .int .i64 a0_2, .int .i64 a0_3, .int .i64 a0_4]) (t := 28) ?hr ?_; (case hd => rfl); (case hg => rfl); (case hr => first | (go_simp; done) | (go_simp; rfl)); intro gb145 hg w11 hbox hb; have n0_ := Aside0.mk (below_step (by repeat (first | (with_reducible first | exact HB.out | apply below_alloc | apply pw_below_drewN | apply below_drew1) | exact HB.out)) hb); have n1_ := Aside0.mk (hbox); have n2_ := Aside0.mk ((by rw [hg]; exact (below_size (by repeat (first | (with_reducible first | exact HB.out | apply below_alloc | apply pw_below_drewN | apply below_drew1) | exact HB.out))) : w.heap.size ≤ gb145)); have n3_ := Aside0.mk ((by rw [hg]; exact (below_size (by repeat (first | (with_reducible first | exact HB.out | apply below_alloc | apply pw_below_drewN | apply below_drew1) | exact HB.out))) : w.heap.size ≤ gb145)); clear HB; have HB := n0_; have BK145 := n1_; have GW145 := n2_; have GE145 := n3_; clear n0_ n1_ n2_ n3_; clear hb hbox hg; have hcz12_0 : w11.cell? ⟨gb145, 0, none⟩ = some (.int .i64 a0_0) := (blk_cell BK145.out 0).trans rfl; have hcz12_1 : w11.cell? ⟨gb145, 1, none⟩ = some (.int .i64 a0_1) := (blk_cell BK145.out 1).trans rfl; have hcz12_2 : w11.cell? ⟨gb145, 2, none⟩ = some (.int .i64 a0_2) := (blk_cell BK145.out 2).trans rfl; have hcz12_3 : w11.cell? ⟨gb145, 3, none⟩ = some (.int .i64 a0_3) := (blk_cell BK145.out 3).trans rfl; have hcz12_4 : w11.cell? ⟨gb145, 4, none⟩ = some (.int .i64 a0_4) := (blk_cell BK145.out 4).trans rfl; have hfz12_0 := blk_frozen BK145.out 0; have hfz12_1 := blk_frozen BK145.out 1; have hfz12_2 := blk_frozen BK145.out 2; have hfz12_3 := blk_frozen BK145.out 3; have hfz12_4 := blk_frozen BK145.out 4))
                go_ret
                exact ⟨by first | rfl | (simp [errW_none, errW_some] <;> rfl) | (simp [*, errW_none, errW_some] <;> rfl), by repeat (first | (with_reducible first | exact HB.out | apply below_alloc | apply pw_below_drewN | apply below_drew1 | refine below_set ?_ GE145.out) | exact HB.out)⟩
            · rw [if_neg c7] at H
              have c7b0 : decide (a0_3 ≤ 2147483648) = false := decide_eq_false c7
              clear c7
              obtain rfl := Option.some.inj H
              go_enter Try.func44, Try.ntmps44
              go_wp2_with (first | ((with_reducible refine gate_dst (N := 1) rfl ?_); refine box_event ?hg (N := 1) ?hd (cs := #[.int .i64 a0_0, .int .i64 a0_1, .int .i64 a0_2, .int .i64 a0_3, .int .i64 a0_4]) (t := 28) ?hr ?_; (case hd => rfl); (case hg => rfl); (case hr => first | (go_simp; done) | (go_simp; rfl)); intro gb145 hg w13 hbox hb; have n0_ := Aside0.mk (below_step (by repeat (first | (with_reducible first | exact HB.out | apply below_alloc | apply pw_below_drewN | apply below_drew1) | exact HB.out)) hb); have n1_ := Aside0.mk (hbox); have n2_ := Aside0.mk ((by rw [hg]; exact (below_size (by repeat (first | (with_reducible first | exact HB.out | apply below_alloc | apply pw_below_drewN | apply below_drew1) | exact HB.out))) : w.heap.size ≤ gb145)); have n3_ := Aside0.mk ((by rw [hg]; exact (below_size (by repeat (first | (with_reducible first | exact HB.out | apply below_alloc | apply pw_below_drewN | apply below_drew1) | exact HB.out))) : w.heap.size ≤ gb145)); clear HB; have HB := n0_; have BK145 := n1_; have GW145 := n2_; have GE145 := n3_; clear n0_ n1_ n2_ n3_; clear hb hbox hg; have hcz14_0 : w13.cell? ⟨gb145, 0, none⟩ = some (.int .i64 a0_0) := (blk_cell BK145.out 0).trans rfl; have hcz14_1 : w13.cell? ⟨gb145, 1, none⟩ = some (.int .i64 a0_1) := (blk_cell BK145.out 1).trans rfl; have hcz14_2 : w13.cell? ⟨gb145, 2, none⟩ = some (.int .i64 a0_2) := (blk_cell BK145.out 2).trans rfl; have hcz14_3 : w13.cell? ⟨gb145, 3, none⟩ = some (.int .i64 a0_3) := (blk_cell BK145.out 3).trans rfl; have hcz14_4 : w13.cell? ⟨gb145, 4, none⟩ = some (.int .i64 a0_4) := (blk_cell BK145.out 4).trans rfl; have hfz14_0 := blk_frozen BK145.out 0; have hfz14_1 := blk_frozen BK145.out 1; have hfz14_2 := blk_frozen BK145.out 2; have hfz14_3 := blk_frozen BK145.out 3; have hfz14_4 := blk_frozen BK145.out 4))
              go_ret
              exact ⟨by first | rfl | (simp [errW_none, errW_some] <;> rfl) | (simp [*, errW_none, errW_some] <;> rfl), by repeat (first | (with_reducible first | exact HB.out | apply below_alloc | apply pw_below_drewN | apply below_drew1 | refine below_set ?_ GE145.out) | exact HB.out)⟩
          · rw [if_neg c6] at H
            have c6b0 : decide (a0_2 ≤ a0_3) = false := decide_eq_false c6
            clear c6
            obtain rfl := Option.some.inj H
            go_enter Try.func44, Try.ntmps44
            go_wp2_with (first | ((with_reducible refine gate_dst (N := 1) rfl ?_); refine box_event ?hg (N := 1) ?hd (cs := #[.int .i64 a0_0, .int .i64 a0_1, .int .i64 a0_2, .int .i64 a0_3, .int .i64 a0_4]) (t := 28) ?hr ?_; (case hd => rfl); (case hg => rfl); (case hr => first | (go_simp; done) | (go_simp; rfl)); intro gb145 hg w15 hbox hb; have n0_ := Aside0.mk (below_step (by repeat (first | (with_reducible first | exact HB.out | apply below_alloc | apply pw_below_drewN | apply below_drew1) | exact HB.out)) hb); have n1_ := Aside0.mk (hbox); have n2_ := Aside0.mk ((by rw [hg]; exact (below_size (by repeat (first | (with_reducible first | exact HB.out | apply below_alloc | apply pw_below_drewN | apply below_drew1) | exact HB.out))) : w.heap.size ≤ gb145)); have n3_ := Aside0.mk ((by rw [hg]; exact (below_size (by repeat (first | (with_reducible first | exact HB.out | apply below_alloc | apply pw_below_drewN | apply below_drew1) | exact HB.out))) : w.heap.size ≤ gb145)); clear HB; have HB := n0_; have BK145 := n1_; have GW145 := n2_; have GE145 := n3_; clear n0_ n1_ n2_ n3_; clear hb hbox hg; have hcz16_0 : w15.cell? ⟨gb145, 0, none⟩ = some (.int .i64 a0_0) := (blk_cell BK145.out 0).trans rfl; have hcz16_1 : w15.cell? ⟨gb145, 1, none⟩ = some (.int .i64 a0_1) := (blk_cell BK145.out 1).trans rfl; have hcz16_2 : w15.cell? ⟨gb145, 2, none⟩ = some (.int .i64 a0_2) := (blk_cell BK145.out 2).trans rfl; have hcz16_3 : w15.cell? ⟨gb145, 3, none⟩ = some (.int .i64 a0_3) := (blk_cell BK145.out 3).trans rfl; have hcz16_4 : w15.cell? ⟨gb145, 4, none⟩ = some (.int .i64 a0_4) := (blk_cell BK145.out 4).trans rfl; have hfz16_0 := blk_frozen BK145.out 0; have hfz16_1 := blk_frozen BK145.out 1; have hfz16_2 := blk_frozen BK145.out 2; have hfz16_3 := blk_frozen BK145.out 3; have hfz16_4 := blk_frozen BK145.out 4))
            go_ret
            exact ⟨by first | rfl | (simp [errW_none, errW_some] <;> rfl) | (simp [*, errW_none, errW_some] <;> rfl), by repeat (first | (with_reducible first | exact HB.out | apply below_alloc | apply pw_below_drewN | apply below_drew1 | refine below_set ?_ GE145.out) | exact HB.out)⟩
        · rw [if_neg c5] at H
          have c5b0 : decide (a0_1 ≤ a0_2) = false := decide_eq_false c5
          clear c5
          obtain rfl := Option.some.inj H
          go_enter Try.func44, Try.ntmps44
          go_wp2_with (first | ((with_reducible refine gate_dst (N := 1) rfl ?_); refine box_event ?hg (N := 1) ?hd (cs := #[.int .i64 a0_0, .int .i64 a0_1, .int .i64 a0_2, .int .i64 a0_3, .int .i64 a0_4]) (t := 28) ?hr ?_; (case hd => rfl); (case hg => rfl); (case hr => first | (go_simp; done) | (go_simp; rfl)); intro gb145 hg w17 hbox hb; have n0_ := Aside0.mk (below_step (by repeat (first | (with_reducible first | exact HB.out | apply below_alloc | apply pw_below_drewN | apply below_drew1) | exact HB.out)) hb); have n1_ := Aside0.mk (hbox); have n2_ := Aside0.mk ((by rw [hg]; exact (below_size (by repeat (first | (with_reducible first | exact HB.out | apply below_alloc | apply pw_below_drewN | apply below_drew1) | exact HB.out))) : w.heap.size ≤ gb145)); have n3_ := Aside0.mk ((by rw [hg]; exact (below_size (by repeat (first | (with_reducible first | exact HB.out | apply below_alloc | apply pw_below_drewN | apply below_drew1) | exact HB.out))) : w.heap.size ≤ gb145)); clear HB; have HB := n0_; have BK145 := n1_; have GW145 := n2_; have GE145 := n3_; clear n0_ n1_ n2_ n3_; clear hb hbox hg; have hcz18_0 : w17.cell? ⟨gb145, 0, none⟩ = some (.int .i64 a0_0) := (blk_cell BK145.out 0).trans rfl; have hcz18_1 : w17.cell? ⟨gb145, 1, none⟩ = some (.int .i64 a0_1) := (blk_cell BK145.out 1).trans rfl; have hcz18_2 : w17.cell? ⟨gb145, 2, none⟩ = some (.int .i64 a0_2) := (blk_cell BK145.out 2).trans rfl; have hcz18_3 : w17.cell? ⟨gb145, 3, none⟩ = some (.int .i64 a0_3) := (blk_cell BK145.out 3).trans rfl; have hcz18_4 : w17.cell? ⟨gb145, 4, none⟩ = some (.int .i64 a0_4) := (blk_cell BK145.out 4).trans rfl; have hfz18_0 := blk_frozen BK145.out 0; have hfz18_1 := blk_frozen BK145.out 1; have hfz18_2 := blk_frozen BK145.out 2; have hfz18_3 := blk_frozen BK145.out 3; have hfz18_4 := blk_frozen BK145.out 4))
          go_ret
          exact ⟨by first | rfl | (simp [errW_none, errW_some] <;> rfl) | (simp [*, errW_none, errW_some] <;> rfl), by repeat (first | (with_reducible first | exact HB.out | apply below_alloc | apply pw_below_drewN | apply below_drew1 | refine below_set ?_ GE145.out) | exact HB.out)⟩
      · rw [if_neg c4] at H
        have c4b0 : decide (1 ≤ a0_1) = false := decide_eq_false c4
        clear c4
        obtain rfl := Option.some.inj H
        go_enter Try.func44, Try.ntmps44
        go_wp2_with (first | ((with_reducible refine gate_dst (N := 1) rfl ?_); refine box_event ?hg (N := 1) ?hd (cs := #[.int .i64 a0_0, .int .i64 a0_1, .int .i64 a0_2, .int .i64 a0_3, .int .i64 a0_4]) (t := 28) ?hr ?_; (case hd => rfl); (case hg => rfl); (case hr => first | (go_simp; done) | (go_simp; rfl)); intro gb145 hg w19 hbox hb; have n0_ := Aside0.mk (below_step (by repeat (first | (with_reducible first | exact HB.out | apply below_alloc | apply pw_below_drewN | apply below_drew1) | exact HB.out)) hb); have n1_ := Aside0.mk (hbox); have n2_ := Aside0.mk ((by rw [hg]; exact (below_size (by repeat (first | (with_reducible first | exact HB.out | apply below_alloc | apply pw_below_drewN | apply below_drew1) | exact HB.out))) : w.heap.size ≤ gb145)); have n3_ := Aside0.mk ((by rw [hg]; exact (below_size (by repeat (first | (with_reducible first | exact HB.out | apply below_alloc | apply pw_below_drewN | apply below_drew1) | exact HB.out))) : w.heap.size ≤ gb145)); clear HB; have HB := n0_; have BK145 := n1_; have GW145 := n2_; have GE145 := n3_; clear n0_ n1_ n2_ n3_; clear hb hbox hg; have hcz20_0 : w19.cell? ⟨gb145, 0, none⟩ = some (.int .i64 a0_0) := (blk_cell BK145.out 0).trans rfl; have hcz20_1 : w19.cell? ⟨gb145, 1, none⟩ = some (.int .i64 a0_1) := (blk_cell BK145.out 1).trans rfl; have hcz20_2 : w19.cell? ⟨gb145, 2, none⟩ = some (.int .i64 a0_2) := (blk_cell BK145.out 2).trans rfl; have hcz20_3 : w19.cell? ⟨gb145, 3, none⟩ = some (.int .i64 a0_3) := (blk_cell BK145.out 3).trans rfl; have hcz20_4 : w19.cell? ⟨gb145, 4, none⟩ = some (.int .i64 a0_4) := (blk_cell BK145.out 4).trans rfl; have hfz20_0 := blk_frozen BK145.out 0; have hfz20_1 := blk_frozen BK145.out 1; have hfz20_2 := blk_frozen BK145.out 2; have hfz20_3 := blk_frozen BK145.out 3; have hfz20_4 := blk_frozen BK145.out 4))
        go_ret
        exact ⟨by first | rfl | (simp [errW_none, errW_some] <;> rfl) | (simp [*, errW_none, errW_some] <;> rfl), by repeat (first | (with_reducible first | exact HB.out | apply below_alloc | apply pw_below_drewN | apply below_drew1 | refine below_set ?_ GE145.out) | exact HB.out)⟩
    · rw [if_neg c3] at H
      have c3b0 : decide (a0_0 ≤ 1023) = false := decide_eq_false c3
      clear c3
      obtain rfl := Option.some.inj H
      go_enter Try.func44, Try.ntmps44
      go_wp2_with (first | ((with_reducible refine gate_dst (N := 1) rfl ?_); refine box_event ?hg (N := 1) ?hd (cs := #[.int .i64 a0_0, .int .i64 a0_1, .int .i64 a0_2, .int .i64 a0_3, .int .i64 a0_4]) (t := 28) ?hr ?_; (case hd => rfl); (case hg => rfl); (case hr => first | (go_simp; done) | (go_simp; rfl)); intro gb145 hg w21 hbox hb; have n0_ := Aside0.mk (below_step (by repeat (first | (with_reducible first | exact HB.out | apply below_alloc | apply pw_below_drewN | apply below_drew1) | exact HB.out)) hb); have n1_ := Aside0.mk (hbox); have n2_ := Aside0.mk ((by rw [hg]; exact (below_size (by repeat (first | (with_reducible first | exact HB.out | apply below_alloc | apply pw_below_drewN | apply below_drew1) | exact HB.out))) : w.heap.size ≤ gb145)); have n3_ := Aside0.mk ((by rw [hg]; exact (below_size (by repeat (first | (with_reducible first | exact HB.out | apply below_alloc | apply pw_below_drewN | apply below_drew1) | exact HB.out))) : w.heap.size ≤ gb145)); clear HB; have HB := n0_; have BK145 := n1_; have GW145 := n2_; have GE145 := n3_; clear n0_ n1_ n2_ n3_; clear hb hbox hg; have hcz22_0 : w21.cell? ⟨gb145, 0, none⟩ = some (.int .i64 a0_0) := (blk_cell BK145.out 0).trans rfl; have hcz22_1 : w21.cell? ⟨gb145, 1, none⟩ = some (.int .i64 a0_1) := (blk_cell BK145.out 1).trans rfl; have hcz22_2 : w21.cell? ⟨gb145, 2, none⟩ = some (.int .i64 a0_2) := (blk_cell BK145.out 2).trans rfl; have hcz22_3 : w21.cell? ⟨gb145, 3, none⟩ = some (.int .i64 a0_3) := (blk_cell BK145.out 3).trans rfl; have hcz22_4 : w21.cell? ⟨gb145, 4, none⟩ = some (.int .i64 a0_4) := (blk_cell BK145.out 4).trans rfl; have hfz22_0 := blk_frozen BK145.out 0; have hfz22_1 := blk_frozen BK145.out 1; have hfz22_2 := blk_frozen BK145.out 2; have hfz22_3 := blk_frozen BK145.out 3; have hfz22_4 := blk_frozen BK145.out 4))
      go_ret
      exact ⟨by first | rfl | (simp [errW_none, errW_some] <;> rfl) | (simp [*, errW_none, errW_some] <;> rfl), by repeat (first | (with_reducible first | exact HB.out | apply below_alloc | apply pw_below_drewN | apply below_drew1 | refine below_set ?_ GE145.out) | exact HB.out)⟩
  · rw [if_neg c2] at H
    have c2b0 : decide (0 ≤ a0_0) = false := decide_eq_false c2
    clear c2
    obtain rfl := Option.some.inj H
    go_enter Try.func44, Try.ntmps44
    go_wp2_with (first | ((with_reducible refine gate_dst (N := 1) rfl ?_); refine box_event ?hg (N := 1) ?hd (cs := #[.int .i64 a0_0, .int .i64 a0_1, .int .i64 a0_2, .int .i64 a0_3, .int .i64 a0_4]) (t := 28) ?hr ?_; (case hd => rfl); (case hg => rfl); (case hr => first | (go_simp; done) | (go_simp; rfl)); intro gb145 hg w23 hbox hb; have n0_ := Aside0.mk (below_step (by repeat (first | (with_reducible first | exact HB.out | apply below_alloc | apply pw_below_drewN | apply below_drew1) | exact HB.out)) hb); have n1_ := Aside0.mk (hbox); have n2_ := Aside0.mk ((by rw [hg]; exact (below_size (by repeat (first | (with_reducible first | exact HB.out | apply below_alloc | apply pw_below_drewN | apply below_drew1) | exact HB.out))) : w.heap.size ≤ gb145)); have n3_ := Aside0.mk ((by rw [hg]; exact (below_size (by repeat (first | (with_reducible first | exact HB.out | apply below_alloc | apply pw_below_drewN | apply below_drew1) | exact HB.out))) : w.heap.size ≤ gb145)); clear HB; have HB := n0_; have BK145 := n1_; have GW145 := n2_; have GE145 := n3_; clear n0_ n1_ n2_ n3_; clear hb hbox hg; have hcz24_0 : w23.cell? ⟨gb145, 0, none⟩ = some (.int .i64 a0_0) := (blk_cell BK145.out 0).trans rfl; have hcz24_1 : w23.cell? ⟨gb145, 1, none⟩ = some (.int .i64 a0_1) := (blk_cell BK145.out 1).trans rfl; have hcz24_2 : w23.cell? ⟨gb145, 2, none⟩ = some (.int .i64 a0_2) := (blk_cell BK145.out 2).trans rfl; have hcz24_3 : w23.cell? ⟨gb145, 3, none⟩ = some (.int .i64 a0_3) := (blk_cell BK145.out 3).trans rfl; have hcz24_4 : w23.cell? ⟨gb145, 4, none⟩ = some (.int .i64 a0_4) := (blk_cell BK145.out 4).trans rfl; have hfz24_0 := blk_frozen BK145.out 0; have hfz24_1 := blk_frozen BK145.out 1; have hfz24_2 := blk_frozen BK145.out 2; have hfz24_3 := blk_frozen BK145.out 3; have hfz24_4 := blk_frozen BK145.out 4))
    go_ret
    exact ⟨by first | rfl | (simp [errW_none, errW_some] <;> rfl) | (simp [*, errW_none, errW_some] <;> rfl), by repeat (first | (with_reducible first | exact HB.out | apply below_alloc | apply pw_below_drewN | apply below_drew1 | refine below_set ?_ GE145.out) | exact HB.out)⟩

/-! ### horariumref09_Row: function 57 -/
def horariumref09_Row.l0 : Nat → List (S28) → Int → Option (Bool)
  | 0, _, _ => none
  | k + 1, x0, x3 => if x3 < (x0.length : Int) then (if 0 ≤ x3 then ((horariumref09_Check.f ((rd_T28 x0 x3).f0) ((rd_T28 x0 x3).f1) ((rd_T28 x0 x3).f2) ((rd_T28 x0 x3).f3) ((rd_T28 x0 x3).f4)).bind fun t147 => (if t147 = true then (horariumref09_Row.l0 k x0 (wrap64 (x3 + 1))) else (some false))) else (none)) else (some (decide ((x0.length : Int) ≤ 16)))
def horariumref09_Row.f (k : Nat) (l0 : List (S28)) : Option (Bool) := horariumref09_Row.l0 k l0 0
theorem horariumref09_Row.mono_l : ∀ k, (∀ y0 y1, LeO (horariumref09_Row.l0 k y0 y1) (horariumref09_Row.l0 (k + 1) y0 y1))
  | 0 => fun _ _ r h => by simp [horariumref09_Row.l0] at h
  | k + 1 => by
    have ih0 := horariumref09_Row.mono_l k
    · intro y0 y1
      unfold horariumref09_Row.l0
      repeat' first
      | (with_reducible exact ih0 _ _)
      | (with_reducible exact LeO.refl _)
      | (with_reducible exact LeO.none _)
      | (with_reducible refine LeO.ite ?_ ?_)
      | (with_reducible refine LeO.bind ?_ (fun _ => ?_))
      | exact ih0 _ _
      | exact LeO.none _
      | refine LeO.ite ?_ ?_
      | refine LeO.bind ?_ (fun _ => ?_)
theorem horariumref09_Row.mono : ∀ a0 k, LeO (horariumref09_Row.f k a0) (horariumref09_Row.f (k + 1) a0) := by
  intro a0 k
  have ih0 := horariumref09_Row.mono_l k
  unfold horariumref09_Row.f
  repeat' first
      | (with_reducible exact ih0 _ _)
      | (with_reducible exact LeO.refl _)
      | (with_reducible exact LeO.none _)
      | (with_reducible refine LeO.ite ?_ ?_)
      | (with_reducible refine LeO.bind ?_ (fun _ => ?_))
      | exact ih0 _ _
      | exact LeO.none _
      | refine LeO.ite ?_ ?_
      | refine LeO.bind ?_ (fun _ => ?_)
set_option maxHeartbeats 8000000 in
set_option maxRecDepth 100000 in
theorem horariumref09_Row.calls (k : Nat) (A0 : Option Addr) (c0 : Nat) (l0 : List (S28)) (r : Bool) (w : World) (hr0 : Kd.C k28 w A0 l0.length l0) (hc0 : l0.length ≤ c0) (h : horariumref09_Row.f k l0 = some r) :
    Calls Try.prog 57 #[.slice A0 l0.length c0] w fun e w' => e = .returned (.bool r) ∧ Below w.heap.size w w' := by
  have hu28 := Try.underlying28
  have HR0 := Aside0.mk hr0
  have HC0 := Aside0.mk hc0
  clear hr0 hc0
  have HB := Aside0.mk (Below.refl w.heap.size w)
  have H : (horariumref09_Row.l0 k l0 0) = some r := h
  clear h
  have H' := Aside0.mk H
  clear H
  go_enter Try.func57, Try.ntmps57
  go_wp2
  go_loopg [3] k (fun kq v3 w' => ∃ (x3_1 : Int), v3 = .int .i64 x3_1 ∧ Aside0 (horariumref09_Row.l0 kq l0 x3_1 = some r) ∧ Aside0 (kq ≤ k) ∧ Aside0 (Below w.heap.size w w'))
  case atStart => exact ⟨(0), (by first | rfl | (simp; done) | (simp [*]; done)), H', ⟨Nat.le_refl _⟩, ⟨by repeat (first | (with_reducible first | exact HB.out | apply below_alloc | apply pw_below_drewN | apply below_drew1) | exact HB.out)⟩⟩
  case round =>
    clear H'
    obtain ⟨x3_1, rfl, HA, HK1, HB⟩ := hrel
    cases gk with
    | zero => exact absurd HA.out (by simp [horariumref09_Row.l0])
    | succ k1 =>
      have H := HA.out
      clear HA
      simp only [horariumref09_Row.l0] at H
      by_cases c2 : x3_1 < (l0.length : Int)
      · rw [if_pos c2] at H
        have c2b0 : decide (x3_1 < (l0.length : Int)) = true := decide_eq_true c2
        clear c2
        by_cases c3 : 0 ≤ x3_1
        · rw [if_pos c3] at H
          have c3b0 : decide (0 ≤ x3_1) = true := decide_eq_true c3
          clear c3
          replace H := Option.bind_eq_some_iff.mp H
          obtain ⟨t147, A40, H⟩ := H
          replace H : (if t147 = true then (horariumref09_Row.l0 k1 l0 (wrap64 (x3_1 + 1))) else (some false)) = some r := H
          have A4 := Aside0.mk A40
          clear A40
          by_cases c5 : t147 = true
          · subst c5
            have H1 : (horariumref09_Row.l0 k1 l0 (wrap64 (x3_1 + 1))) = some r := by rw [if_pos rfl] at H; exact H
            clear H
            have H := H1
            clear H1
            have H' := Aside0.mk H
            clear H
            have p146 : 0 ≤ (x3_1 : Int) := of_decide_eq_true (by first | (with_reducible assumption) | assumption)
            have q146 : x3_1 < (l0.length : Int) := of_decide_eq_true (by first | (with_reducible assumption) | assumption)
            obtain ⟨ad146, e146, hx146_0, hx146_1, hx146_2, hx146_3, hx146_4⟩ := at_T28 HR0.out x3_1 p146 q146
            cases e146
            replace hx146_0 := (HB.out.cell (World.block_lt_of_cell? w _ hx146_0)).trans hx146_0
            replace hx146_1 := (HB.out.cell (World.block_lt_of_cell? w _ hx146_1)).trans hx146_1
            replace hx146_2 := (HB.out.cell (World.block_lt_of_cell? w _ hx146_2)).trans hx146_2
            replace hx146_3 := (HB.out.cell (World.block_lt_of_cell? w _ hx146_3)).trans hx146_3
            replace hx146_4 := (HB.out.cell (World.block_lt_of_cell? w _ hx146_4)).trans hx146_4
            replace p146 := eq_true p146
            replace q146 := eq_true q146
            go_wp2_with (first | ((with_reducible refine gate_callee (f := 44) rfl ?_); refine goesL_ (some 15) rfl rfl Try.func44 (by kernel_rfl) rfl #[.agg #[.int .i64 ((rd_T28 l0 x3_1).f0), .int .i64 ((rd_T28 l0 x3_1).f1), .int .i64 ((rd_T28 l0 x3_1).f2), .int .i64 ((rd_T28 l0 x3_1).f3), .int .i64 ((rd_T28 l0 x3_1).f4)]] rfl (by (try simp only [List.map_toArray, List.map_cons, List.map_nil]); first | done | rfl | (simp only [List.length_drop, List.length_take]; rfl)) ?_; (with_reducible refine (horariumref09_Check.calls ((rd_T28 l0 x3_1).f0) ((rd_T28 l0 x3_1).f1) ((rd_T28 l0 x3_1).f2) ((rd_T28 l0 x3_1).f3) ((rd_T28 l0 x3_1).f4) true _ A4.out).mono ?_); rintro e w6 ⟨rfl, hb⟩; refine ⟨_, rfl, ?_⟩; have n0_ := Aside0.mk (below_step (by repeat (first | (with_reducible first | exact HB.out | apply below_alloc | apply pw_below_drewN | apply below_drew1) | exact HB.out)) hb); clear HB; have HB := n0_; clear n0_; (try clear hb); (try clear hb2); (try clear hk); (try clear hi)))
            go_roundg k1
            case measure => have := HK1.out; omega
            case rel => exact ⟨(wrap64 (x3_1 + 1)), (by first | rfl | (simp; done) | (simp [*]; done)), H', ⟨by have := HK1.out; omega⟩, ⟨by repeat (first | (with_reducible first | exact HB.out | apply below_alloc | apply pw_below_drewN | apply below_drew1) | exact HB.out)⟩⟩
          · replace c5 := Bool.eq_false_iff.mpr c5
            subst c5
            have H1 : (some false) = some r := by rw [if_neg (show ¬ (false = true) by decide)] at H; exact H
            clear H
            have H := H1
            clear H1
            obtain rfl := Option.some.inj H
            have p146 : 0 ≤ (x3_1 : Int) := of_decide_eq_true (by first | (with_reducible assumption) | assumption)
            have q146 : x3_1 < (l0.length : Int) := of_decide_eq_true (by first | (with_reducible assumption) | assumption)
            obtain ⟨ad146, e146, hx146_0, hx146_1, hx146_2, hx146_3, hx146_4⟩ := at_T28 HR0.out x3_1 p146 q146
            cases e146
            replace hx146_0 := (HB.out.cell (World.block_lt_of_cell? w _ hx146_0)).trans hx146_0
            replace hx146_1 := (HB.out.cell (World.block_lt_of_cell? w _ hx146_1)).trans hx146_1
            replace hx146_2 := (HB.out.cell (World.block_lt_of_cell? w _ hx146_2)).trans hx146_2
            replace hx146_3 := (HB.out.cell (World.block_lt_of_cell? w _ hx146_3)).trans hx146_3
            replace hx146_4 := (HB.out.cell (World.block_lt_of_cell? w _ hx146_4)).trans hx146_4
            replace p146 := eq_true p146
            replace q146 := eq_true q146
            go_wp2_with (first | ((with_reducible refine gate_callee (f := 44) rfl ?_); refine goesL_ (some 15) rfl rfl Try.func44 (by kernel_rfl) rfl #[.agg #[.int .i64 ((rd_T28 l0 x3_1).f0), .int .i64 ((rd_T28 l0 x3_1).f1), .int .i64 ((rd_T28 l0 x3_1).f2), .int .i64 ((rd_T28 l0 x3_1).f3), .int .i64 ((rd_T28 l0 x3_1).f4)]] rfl (by (try simp only [List.map_toArray, List.map_cons, List.map_nil]); first | done | rfl | (simp only [List.length_drop, List.length_take]; rfl)) ?_; (with_reducible refine (horariumref09_Check.calls ((rd_T28 l0 x3_1).f0) ((rd_T28 l0 x3_1).f1) ((rd_T28 l0 x3_1).f2) ((rd_T28 l0 x3_1).f3) ((rd_T28 l0 x3_1).f4) false _ A4.out).mono ?_); rintro e w7 ⟨rfl, hb⟩; refine ⟨_, rfl, ?_⟩; have n0_ := Aside0.mk (below_step (by repeat (first | (with_reducible first | exact HB.out | apply below_alloc | apply pw_below_drewN | apply below_drew1) | exact HB.out)) hb); clear HB; have HB := n0_; clear n0_; (try clear hb); (try clear hb2); (try clear hk); (try clear hi)))
            go_ret
            exact ⟨by first | rfl | (simp [errW_none, errW_some] <;> rfl) | (simp [*, errW_none, errW_some] <;> rfl), by repeat (first | (with_reducible first | exact HB.out | apply below_alloc | apply pw_below_drewN | apply below_drew1) | exact HB.out)⟩
        · rw [if_neg c3] at H
          exact absurd H (by simp)
      · rw [if_neg c2] at H
        have c2b0 : decide (x3_1 < (l0.length : Int)) = false := decide_eq_false c2
        clear c2
        obtain rfl := Option.some.inj H
        go_wp2
        go_ret
        exact ⟨by first | rfl | (simp [errW_none, errW_some] <;> rfl) | (simp [*, errW_none, errW_some] <;> rfl), by repeat (first | (with_reducible first | exact HB.out | apply below_alloc | apply pw_below_drewN | apply below_drew1) | exact HB.out)⟩

/-! ### horariumref09_Gcd: function 70 -/
def horariumref09_Gcd.f : Nat → Int → Int → Option (Int)
  | 0, _, _ => none
  | k + 1, a0, a1 => if a0 < 0 then ((horariumref09_Gcd.f k (wrap64 (-a0)) a1).bind fun t148 => (some t148)) else (if a1 < 0 then ((horariumref09_Gcd.f k a0 (wrap64 (-a1))).bind fun t149 => (some t149)) else (if a1 = 0 then (some a0) else ((horariumref09_Gcd.f k a1 (Int.tmod a0 a1)).bind fun t150 => (some t150))))
theorem horariumref09_Gcd.mono_l : ∀ k, (∀ y0 y1, LeO (horariumref09_Gcd.f k y0 y1) (horariumref09_Gcd.f (k + 1) y0 y1))
  | 0 => fun _ _ r h => by simp [horariumref09_Gcd.f] at h
  | k + 1 => by
    have ih0 := horariumref09_Gcd.mono_l k
    · intro y0 y1
      unfold horariumref09_Gcd.f
      repeat' first
      | (with_reducible exact ih0 _ _)
      | (with_reducible exact LeO.refl _)
      | (with_reducible exact LeO.none _)
      | (with_reducible refine LeO.ite ?_ ?_)
      | (with_reducible refine LeO.bind ?_ (fun _ => ?_))
      | exact ih0 _ _
      | exact LeO.none _
      | refine LeO.ite ?_ ?_
      | refine LeO.bind ?_ (fun _ => ?_)
theorem horariumref09_Gcd.mono : ∀ a0 a1 k, LeO (horariumref09_Gcd.f k a0 a1) (horariumref09_Gcd.f (k + 1) a0 a1) := by
  intro a0 a1 k
  have ih0 := horariumref09_Gcd.mono_l k
  exact ih0 a0 a1
set_option maxHeartbeats 8000000 in
set_option maxRecDepth 100000 in
theorem horariumref09_Gcd.calls (k : Nat) : ∀ (a0 : Int) (a1 : Int) (r : Int) (w : World) (h : horariumref09_Gcd.f k a0 a1 = some r),
    Calls Try.prog 70 #[.int .i64 a0, .int .i64 a1] w fun e w' => e = .returned (.int .i64 r) ∧ Drawn0 w w' := by
  induction k using Nat.strongRecOn with
  | _ k ih =>
  intro a0 a1 r w h
  cases k with
  | zero => exact absurd h (by simp [horariumref09_Gcd.f])
  | succ k =>
  simp only [horariumref09_Gcd.f] at h
  have H : (if a0 < 0 then ((horariumref09_Gcd.f k (wrap64 (-a0)) a1).bind fun t148 => (some t148)) else (if a1 < 0 then ((horariumref09_Gcd.f k a0 (wrap64 (-a1))).bind fun t149 => (some t149)) else (if a1 = 0 then (some a0) else ((horariumref09_Gcd.f k a1 (Int.tmod a0 a1)).bind fun t150 => (some t150))))) = some r := h
  clear h
  by_cases c3 : a0 < 0
  · rw [if_pos c3] at H
    have c3b0 : decide (a0 < 0) = true := decide_eq_true c3
    clear c3
    replace H := Option.bind_eq_some_iff.mp H
    obtain ⟨t148, A40, H⟩ := H
    replace H : (some t148) = some r := H
    have A4 := Aside0.mk A40
    clear A40
    obtain rfl := Option.some.inj H
    go_enter Try.func70, Try.ntmps70
    go_wp2_with (first | ((with_reducible refine gate_callee (f := 70) rfl ?_); refine goesL_ (some 10) rfl rfl Try.func70 (by kernel_rfl) rfl #[.int .i64 (wrap64 (-a0)), .int .i64 a1] rfl (by (try simp only [List.map_toArray, List.map_cons, List.map_nil]); first | done | rfl | (simp only [List.length_drop, List.length_take]; rfl)) ?_; (with_reducible refine (ih k (by omega) (wrap64 (-a0)) a1 t148 _ A4.out).mono ?_); rintro e w' ⟨rfl, ⟨nd, rfl⟩⟩; refine ⟨_, rfl, ?_⟩))
    go_ret
    exact ⟨by first | rfl | (simp; done) | (simp only [i64_w]; done) | (simp [*]; done), by repeat (first | exact Drawn0.refl _ | apply Drawn0.step)⟩
  · rw [if_neg c3] at H
    have c3b0 : decide (a0 < 0) = false := decide_eq_false c3
    clear c3
    by_cases c5 : a1 < 0
    · rw [if_pos c5] at H
      have c5b0 : decide (a1 < 0) = true := decide_eq_true c5
      clear c5
      replace H := Option.bind_eq_some_iff.mp H
      obtain ⟨t149, A60, H⟩ := H
      replace H : (some t149) = some r := H
      have A6 := Aside0.mk A60
      clear A60
      obtain rfl := Option.some.inj H
      go_enter Try.func70, Try.ntmps70
      go_wp2_with (first | ((with_reducible refine gate_callee (f := 70) rfl ?_); refine goesL_ (some 16) rfl rfl Try.func70 (by kernel_rfl) rfl #[.int .i64 a0, .int .i64 (wrap64 (-a1))] rfl (by (try simp only [List.map_toArray, List.map_cons, List.map_nil]); first | done | rfl | (simp only [List.length_drop, List.length_take]; rfl)) ?_; (with_reducible refine (ih k (by omega) a0 (wrap64 (-a1)) t149 _ A6.out).mono ?_); rintro e w' ⟨rfl, ⟨nd, rfl⟩⟩; refine ⟨_, rfl, ?_⟩))
      go_ret
      exact ⟨by first | rfl | (simp; done) | (simp only [i64_w]; done) | (simp [*]; done), by repeat (first | exact Drawn0.refl _ | apply Drawn0.step)⟩
    · rw [if_neg c5] at H
      have c5b0 : decide (a1 < 0) = false := decide_eq_false c5
      clear c5
      by_cases c7 : a1 = 0
      · rw [if_pos c7] at H
        have c7b0 : (a1 == 0) = true := beq_iff_eq.mpr c7
        have c7b1 : (a1 != 0) = false := bne_eq_false_iff_eq.mpr c7
        clear c7
        obtain rfl := Option.some.inj H
        go_enter Try.func70, Try.ntmps70
        go_wp2
        go_ret
        exact ⟨by first | rfl | (simp; done) | (simp only [i64_w]; done) | (simp [*]; done), by repeat (first | exact Drawn0.refl _ | apply Drawn0.step)⟩
      · rw [if_neg c7] at H
        have c7b0 : (a1 == 0) = false := beq_eq_false_iff_ne.mpr c7
        have c7b1 : (a1 != 0) = true := bne_iff_ne.mpr c7
        replace H := Option.bind_eq_some_iff.mp H
        obtain ⟨t150, A80, H⟩ := H
        replace H : (some t150) = some r := H
        have A8 := Aside0.mk A80
        clear A80
        obtain rfl := Option.some.inj H
        go_enter Try.func70, Try.ntmps70
        go_wp2_with (first | ((with_reducible refine gate_callee (f := 70) rfl ?_); refine goesL_ (some 24) rfl rfl Try.func70 (by kernel_rfl) rfl #[.int .i64 a1, .int .i64 (Int.tmod a0 a1)] rfl (by (try simp only [List.map_toArray, List.map_cons, List.map_nil]); first | done | rfl | (simp only [List.length_drop, List.length_take]; rfl)) ?_; (with_reducible refine (ih k (by omega) a1 (Int.tmod a0 a1) t150 _ A8.out).mono ?_); rintro e w' ⟨rfl, ⟨nd, rfl⟩⟩; refine ⟨_, rfl, ?_⟩))
        go_ret
        exact ⟨by first | rfl | (simp; done) | (simp only [i64_w]; done) | (simp [*]; done), by repeat (first | exact Drawn0.refl _ | apply Drawn0.step)⟩

end Go.Proofs.Ythiepacmdlgajaa.PQpaRoom
