-- Made by px.py (a program of this session, over the kit's printer) out of the translation. Not trusted: Lean checks it.
import Derived.Test.YthkagoomlmgcdaaPJudgeFitsx0
import Derived.Test.YthkagoomlmgcdaaPJudgeFitsx2
import Derived.Test.YthkagoomlmgcdaaPJudgeFitsx3
import Derived.Test.YthkagoomlmgcdaaPJudgeFitsx4
import Derived.Test.YthkagoomlmgcdaaPJudgeFitsx5
namespace Go.Proofs.Ythkagoomlmgcdaa.PJudgeFits
open Go.RowKit Go.Proofs.YthkagoomlmgcdaaW.PrintWords Go.Proofs.YthkagoomlmgcdaaW.PrintLast Go.Proofs.YthkagoomlmgcdaaW.PrintMore
attribute [local go_sem] max2_int min2_int max_two min_two max_three min_three max_four min_four   -- for this text's walks alone
set_option linter.unusedVariables false
set_option linter.unusedSimpArgs false

/-! ### table_Apply: function 37 (by hand) -/
-- table_Check ops_Check table_at table_admits slices_Clone_api_Row table_with
/-- A row with another C. -/
def reC (x : S60) (c : Int) : S60 := ⟨⟨x.f0.f0, c, x.f0.f2, x.f0.f3, x.f0.f4⟩, x.f1⟩
def atR (l : List S60) (id : Int) : S60 := rd_T60 l (bsAt l id : Int)
def applyB (l0_0 : List S60) (a0_1 : Int) (a1_0 a1_1 a1_2 a1_3 a1_4 a1_5 : Int) (a1_6 : Bool) (a1_7 a1_8 a1_9 : Int) : Option (List S60 × Int × Int) := if a1_0 = 1 then table_admits.f l0_0 a0_1 a1_0 a1_1 a1_2 a1_3 a1_4 a1_5 a1_6 a1_7 a1_8 a1_9 else if a1_0 = 4 then (slices_Clone_api_Row.f l0_0).bind fun t => some (t, a1_9, 0) else if atB l0_0 a1_7 = true then (if a1_0 = 2 then some (l0_0.take (bsAt l0_0 a1_7) ++ [] ++ l0_0.drop (bsAt l0_0 a1_7 + 1), a0_1, 0) else if a1_8 > (atR l0_0 a1_7).f0.f2 then some ([], 0, 1) else some (l0_0.take (bsAt l0_0 a1_7) ++ [reC (atR l0_0 a1_7) a1_8] ++ l0_0.drop (bsAt l0_0 a1_7 + 1), a0_1, 0)) else some ([], 0, 12)
def table_Apply.f (l0_0 : List S60) (a0_1 : Int) (a1_0 a1_1 a1_2 a1_3 a1_4 a1_5 : Int) (a1_6 : Bool) (a1_7 a1_8 a1_9 : Int) : Option (List S60 × Int × Int) := (table_Check.f l0_0 a0_1).bind fun c => if c = true then (ops_Check.f a1_0 a1_1 a1_2 a1_3 a1_4 a1_5 a1_6 a1_7 a1_8 a1_9).bind fun q => if q = true then applyB l0_0 a0_1 a1_0 a1_1 a1_2 a1_3 a1_4 a1_5 a1_6 a1_7 a1_8 a1_9 else some ([], 0, 1) else some ([], 0, 1)
def table_Apply.T7 : Bool × List (List Nat × List Nat) := (true, [([], []), ([0], [0]), ([1], [1]), ([], []), ([3], [3]), ([2, 4], [2, 4]), ([5, 2, 0, 1, 2, 3, 4, 5], [5]), ([6, 0, 1, 2, 3, 4, 5, 6], [])])
def table_Apply.B7 : List Nat := [0, 1, 3, 0, 8, 31, 63, 127]
theorem table_Apply.tab7 : rtab .any (opsOf Try.f37 7) = table_Apply.T7 := by kernel_rfl
theorem table_Apply.bits7 : waitsOk table_Apply.T7.2 table_Apply.B7 = true := by kernel_rfl
set_option maxHeartbeats 16000000 in
set_option maxRecDepth 100000 in
theorem table_Apply.calls (A0_0 : Option Addr) (c0_0 : Nat) (l0_0 : List S60) (a0_1 : Int) (a1_0 a1_1 a1_2 a1_3 a1_4 a1_5 : Int) (a1_6 : Bool) (a1_7 a1_8 a1_9 : Int) (r1 : List S60) (r2 r3 : Int) (w : World) (hr0_0 : Kd.C k60 w A0_0 l0_0.length l0_0) (hc0_0 : l0_0.length ≤ c0_0) (h : table_Apply.f l0_0 a0_1 a1_0 a1_1 a1_2 a1_3 a1_4 a1_5 a1_6 a1_7 a1_8 a1_9 = some (r1, r2, r3)) :
  Calls Try.prog 37 #[.agg #[.slice A0_0 l0_0.length c0_0, .int .i64 a0_1], .agg #[.int .i64 a1_0, .int .i64 a1_1, .int .i64 a1_2, .int .i64 a1_3, .int .i64 a1_4, .int .i64 a1_5, .bool a1_6, .int .i64 a1_7, .int .i64 a1_8, .int .i64 a1_9]] w fun e w' => ∃ v0_ : Value, e = .returned (.tuple #[.agg #[v0_, .int .i64 r2], .int .i64 r3]) ∧ Kd.R k60 60 w' w.heap.size (fun _ => True) v0_ r1 ∧ Below w.heap.size w w' := by
 have hu46 := Try.underlying46
 have hu60 := Try.underlying60
 have hu31 := Try.underlying31
 have hu50 := Try.underlying50
 unfold table_Apply.f at h
 obtain ⟨c, hck, h1⟩ := Option.bind_eq_some_iff.mp h
 have HCK := Aside0.mk hck
 have HR0 := Aside0.mk hr0_0
 have HC0 := Aside0.mk hc0_0
 have HB := Aside0.mk (Below.refl w.heap.size w)
 clear h hck hr0_0 hc0_0
 cases c with
 | false =>
  rw [if_neg (by decide)] at h1
  obtain ⟨rfl, rfl, rfl⟩ : [] = r1 ∧ (0 : Int) = r2 ∧ (1 : Int) = r3 := by simpa using h1
  clear h1
  go_enter Try.func37, Try.ntmps37
  go_wp2_with (first
   | ((with_reducible refine gate_dst (N := 2) rfl ?_); refine box_event ?hg (N := 2) ?hd (cs := #[.slice A0_0 l0_0.length c0_0, .int .i64 a0_1]) (t := 46) ?hr ?_; (case hd => rfl); (case hg => rfl); (case hr => first | (go_simp; done) | (go_simp; rfl)); intro gt hg w2 hbox hb; have n0_ := Aside0.mk (below_step HB.out hb); have BKT := Aside0.mk hbox; have GTT := Aside0.mk (show w.heap.size ≤ gt by rw [hg]; exact Nat.le_refl _); clear HB; have HB := n0_; clear n0_; clear hb hbox hg)
   | ((with_reducible refine gate_dst (N := 3) rfl ?_); refine box_event ?hg (N := 3) ?hd (cs := #[.int .i64 a1_0, .int .i64 a1_1, .int .i64 a1_2, .int .i64 a1_3, .int .i64 a1_4, .int .i64 a1_5, .bool a1_6, .int .i64 a1_7, .int .i64 a1_8, .int .i64 a1_9]) (t := 50) ?hr ?_; (case hd => rfl); (case hg => rfl); (case hr => first | (go_simp; done) | (go_simp; rfl)); intro go hg w3 hbox hb; have n0_ := Aside0.mk (below_step HB.out hb); have n1_ := Aside0.mk (blk_below BKT.out hb); have BKO := Aside0.mk hbox; clear HB BKT; have HB := n0_; have BKT := n1_; clear n0_ n1_; clear hb hbox hg)
   | ((with_reducible refine gate_dst (N := 4) rfl ?_); refine box_event ?hg (N := 4) ?hd (cs := #[.slice none 0 0, .int .i64 0]) (t := 46) ?hr ?_; (case hd => rfl); (case hg => rfl); (case hr => first | (go_simp; done) | (go_simp; rfl)); intro g4 hg w4 hbox hb; have n0_ := Aside0.mk (below_step HB.out hb); have n1_ := Aside0.mk (blk_below BKT.out hb); have n2_ := Aside0.mk (blk_below BKO.out hb); have BK4 := Aside0.mk hbox; have G4 := Aside0.mk (show w.heap.size ≤ g4 by rw [hg]; exact below_size HB.out); have N4 := Aside0.mk (show gt ≠ g4 by rw [hg]; exact Nat.ne_of_lt (blk_lt BKT.out)); have N5 := Aside0.mk (show go ≠ g4 by rw [hg]; exact Nat.ne_of_lt (blk_lt BKO.out)); clear HB BKT BKO; have HB := n0_; have BKT := n1_; have BKO := n2_; clear n0_ n1_ n2_; clear hb hbox hg; have t0 : w4.cell? ⟨gt, 0, none⟩ = some (.slice A0_0 l0_0.length c0_0) := (blk_cell BKT.out 0).trans rfl; have t1 : w4.cell? ⟨gt, 1, none⟩ = some (.int .i64 a0_1) := (blk_cell BKT.out 1).trans rfl; have o0 : w4.cell? ⟨go, 0, none⟩ = some (.int .i64 a1_0) := (blk_cell BKO.out 0).trans rfl; have o1 : w4.cell? ⟨go, 1, none⟩ = some (.int .i64 a1_1) := (blk_cell BKO.out 1).trans rfl; have o2 : w4.cell? ⟨go, 2, none⟩ = some (.int .i64 a1_2) := (blk_cell BKO.out 2).trans rfl; have o3 : w4.cell? ⟨go, 3, none⟩ = some (.int .i64 a1_3) := (blk_cell BKO.out 3).trans rfl; have o4 : w4.cell? ⟨go, 4, none⟩ = some (.int .i64 a1_4) := (blk_cell BKO.out 4).trans rfl; have o5 : w4.cell? ⟨go, 5, none⟩ = some (.int .i64 a1_5) := (blk_cell BKO.out 5).trans rfl; have o6 : w4.cell? ⟨go, 6, none⟩ = some (.bool a1_6) := (blk_cell BKO.out 6).trans rfl; have o7 : w4.cell? ⟨go, 7, none⟩ = some (.int .i64 a1_7) := (blk_cell BKO.out 7).trans rfl; have o8 : w4.cell? ⟨go, 8, none⟩ = some (.int .i64 a1_8) := (blk_cell BKO.out 8).trans rfl; have o9 : w4.cell? ⟨go, 9, none⟩ = some (.int .i64 a1_9) := (blk_cell BKO.out 9).trans rfl; have rr0 : w4.cell? ⟨g4, 0, none⟩ = some (.slice none 0 0) := (blk_cell BK4.out 0).trans rfl; have rr1 : w4.cell? ⟨g4, 1, none⟩ = some (.int .i64 0) := (blk_cell BK4.out 1).trans rfl; have rf0 := blk_frozen BK4.out 0; have rf1 := blk_frozen BK4.out 1)
   | (go_at_call 57; refine (table_Check.calls A0_0 c0_0 l0_0 a0_1 false _ (Kd.C_below HR0.out HB.out) HC0.out HCK.out).mono ?_; rintro e w5 ⟨rfl, hb1⟩; have n0_ := Aside0.mk (below_step HB.out hb1); have n1_ := Aside0.mk (blk_below BKT.out hb1); have n2_ := Aside0.mk (blk_below BKO.out hb1); have n3_ := Aside0.mk (blk_below BK4.out hb1); clear hb1 HB BKT BKO BK4; clear t0 t1 o0 o1 o2 o3 o4 o5 o6 o7 o8 o9 rr0 rr1 rf0 rf1; have HB := n0_; have BKT := n1_; have BKO := n2_; have BK4 := n3_; clear n0_ n1_ n2_ n3_; have t0 : w5.cell? ⟨gt, 0, none⟩ = some (.slice A0_0 l0_0.length c0_0) := (blk_cell BKT.out 0).trans rfl; have t1 : w5.cell? ⟨gt, 1, none⟩ = some (.int .i64 a0_1) := (blk_cell BKT.out 1).trans rfl; have o0 : w5.cell? ⟨go, 0, none⟩ = some (.int .i64 a1_0) := (blk_cell BKO.out 0).trans rfl; have o1 : w5.cell? ⟨go, 1, none⟩ = some (.int .i64 a1_1) := (blk_cell BKO.out 1).trans rfl; have o2 : w5.cell? ⟨go, 2, none⟩ = some (.int .i64 a1_2) := (blk_cell BKO.out 2).trans rfl; have o3 : w5.cell? ⟨go, 3, none⟩ = some (.int .i64 a1_3) := (blk_cell BKO.out 3).trans rfl; have o4 : w5.cell? ⟨go, 4, none⟩ = some (.int .i64 a1_4) := (blk_cell BKO.out 4).trans rfl; have o5 : w5.cell? ⟨go, 5, none⟩ = some (.int .i64 a1_5) := (blk_cell BKO.out 5).trans rfl; have o6 : w5.cell? ⟨go, 6, none⟩ = some (.bool a1_6) := (blk_cell BKO.out 6).trans rfl; have o7 : w5.cell? ⟨go, 7, none⟩ = some (.int .i64 a1_7) := (blk_cell BKO.out 7).trans rfl; have o8 : w5.cell? ⟨go, 8, none⟩ = some (.int .i64 a1_8) := (blk_cell BKO.out 8).trans rfl; have o9 : w5.cell? ⟨go, 9, none⟩ = some (.int .i64 a1_9) := (blk_cell BKO.out 9).trans rfl; have rr0 : w5.cell? ⟨g4, 0, none⟩ = some (.slice none 0 0) := (blk_cell BK4.out 0).trans rfl; have rr1 : w5.cell? ⟨g4, 1, none⟩ = some (.int .i64 0) := (blk_cell BK4.out 1).trans rfl; have rf0 := blk_frozen BK4.out 0; have rf1 := blk_frozen BK4.out 1))
  refine bodyPost_ret (results_ct rfl _ _ g4 46 #[.slice none 0 0, .int .i64 0] (0, 0) _ rfl (by first | exact BK4.out | (refine blk_put (cs := #[.slice none 0 0, .int .i64 0]) ?_ 1 _ rfl; refine blk_put (cs := #[.slice none 0 0, .int .i64 0]) ?_ 0 _ rfl; exact BK4.out)) Try.underlying46 rfl (by kernel_rfl)) rfl ?_
  exact ⟨_, rfl, Kd.R_nil _ _ _ _ _, by first | exact HB.out | exact below_set (below_set HB.out G4.out) G4.out⟩
 | true =>
  rw [if_pos rfl] at h1
  obtain ⟨q, hok, h2⟩ := Option.bind_eq_some_iff.mp h1
  have HOK := Aside0.mk hok
  have hm : l0_0.length ≤ 16 := by
   have := HCK.out
   unfold table_Check.f at this
   have := Option.some.inj this
   unfold tabB at this
   simp only [Bool.and_eq_true, decide_eq_true_eq] at this
   exact this.2.1
  have HM := Aside0.mk hm
  clear h1 hok hm
  cases q with
  | false =>
   rw [if_neg (by decide)] at h2
   obtain ⟨rfl, rfl, rfl⟩ : [] = r1 ∧ (0 : Int) = r2 ∧ (1 : Int) = r3 := by simpa using h2
   clear h2
   go_enter Try.func37, Try.ntmps37
   go_wp2_with (first
    | ((with_reducible refine gate_dst (N := 2) rfl ?_); refine box_event ?hg (N := 2) ?hd (cs := #[.slice A0_0 l0_0.length c0_0, .int .i64 a0_1]) (t := 46) ?hr ?_; (case hd => rfl); (case hg => rfl); (case hr => first | (go_simp; done) | (go_simp; rfl)); intro gt hg w2 hbox hb; have n0_ := Aside0.mk (below_step HB.out hb); have BKT := Aside0.mk hbox; have GTT := Aside0.mk (show w.heap.size ≤ gt by rw [hg]; exact Nat.le_refl _); clear HB; have HB := n0_; clear n0_; clear hb hbox hg)
    | ((with_reducible refine gate_dst (N := 3) rfl ?_); refine box_event ?hg (N := 3) ?hd (cs := #[.int .i64 a1_0, .int .i64 a1_1, .int .i64 a1_2, .int .i64 a1_3, .int .i64 a1_4, .int .i64 a1_5, .bool a1_6, .int .i64 a1_7, .int .i64 a1_8, .int .i64 a1_9]) (t := 50) ?hr ?_; (case hd => rfl); (case hg => rfl); (case hr => first | (go_simp; done) | (go_simp; rfl)); intro go hg w3 hbox hb; have n0_ := Aside0.mk (below_step HB.out hb); have n1_ := Aside0.mk (blk_below BKT.out hb); have BKO := Aside0.mk hbox; clear HB BKT; have HB := n0_; have BKT := n1_; clear n0_ n1_; clear hb hbox hg)
    | ((with_reducible refine gate_dst (N := 4) rfl ?_); refine box_event ?hg (N := 4) ?hd (cs := #[.slice none 0 0, .int .i64 0]) (t := 46) ?hr ?_; (case hd => rfl); (case hg => rfl); (case hr => first | (go_simp; done) | (go_simp; rfl)); intro g4 hg w4 hbox hb; have n0_ := Aside0.mk (below_step HB.out hb); have n1_ := Aside0.mk (blk_below BKT.out hb); have n2_ := Aside0.mk (blk_below BKO.out hb); have BK4 := Aside0.mk hbox; have G4 := Aside0.mk (show w.heap.size ≤ g4 by rw [hg]; exact below_size HB.out); have N4 := Aside0.mk (show gt ≠ g4 by rw [hg]; exact Nat.ne_of_lt (blk_lt BKT.out)); have N5 := Aside0.mk (show go ≠ g4 by rw [hg]; exact Nat.ne_of_lt (blk_lt BKO.out)); clear HB BKT BKO; have HB := n0_; have BKT := n1_; have BKO := n2_; clear n0_ n1_ n2_; clear hb hbox hg; have t0 : w4.cell? ⟨gt, 0, none⟩ = some (.slice A0_0 l0_0.length c0_0) := (blk_cell BKT.out 0).trans rfl; have t1 : w4.cell? ⟨gt, 1, none⟩ = some (.int .i64 a0_1) := (blk_cell BKT.out 1).trans rfl; have o0 : w4.cell? ⟨go, 0, none⟩ = some (.int .i64 a1_0) := (blk_cell BKO.out 0).trans rfl; have o1 : w4.cell? ⟨go, 1, none⟩ = some (.int .i64 a1_1) := (blk_cell BKO.out 1).trans rfl; have o2 : w4.cell? ⟨go, 2, none⟩ = some (.int .i64 a1_2) := (blk_cell BKO.out 2).trans rfl; have o3 : w4.cell? ⟨go, 3, none⟩ = some (.int .i64 a1_3) := (blk_cell BKO.out 3).trans rfl; have o4 : w4.cell? ⟨go, 4, none⟩ = some (.int .i64 a1_4) := (blk_cell BKO.out 4).trans rfl; have o5 : w4.cell? ⟨go, 5, none⟩ = some (.int .i64 a1_5) := (blk_cell BKO.out 5).trans rfl; have o6 : w4.cell? ⟨go, 6, none⟩ = some (.bool a1_6) := (blk_cell BKO.out 6).trans rfl; have o7 : w4.cell? ⟨go, 7, none⟩ = some (.int .i64 a1_7) := (blk_cell BKO.out 7).trans rfl; have o8 : w4.cell? ⟨go, 8, none⟩ = some (.int .i64 a1_8) := (blk_cell BKO.out 8).trans rfl; have o9 : w4.cell? ⟨go, 9, none⟩ = some (.int .i64 a1_9) := (blk_cell BKO.out 9).trans rfl; have rr0 : w4.cell? ⟨g4, 0, none⟩ = some (.slice none 0 0) := (blk_cell BK4.out 0).trans rfl; have rr1 : w4.cell? ⟨g4, 1, none⟩ = some (.int .i64 0) := (blk_cell BK4.out 1).trans rfl; have rf0 := blk_frozen BK4.out 0; have rf1 := blk_frozen BK4.out 1)
    | (go_at_call 57; refine (table_Check.calls A0_0 c0_0 l0_0 a0_1 true _ (Kd.C_below HR0.out HB.out) HC0.out HCK.out).mono ?_; rintro e w5 ⟨rfl, hb1⟩; have n0_ := Aside0.mk (below_step HB.out hb1); have n1_ := Aside0.mk (blk_below BKT.out hb1); have n2_ := Aside0.mk (blk_below BKO.out hb1); have n3_ := Aside0.mk (blk_below BK4.out hb1); clear hb1 HB BKT BKO BK4; clear t0 t1 o0 o1 o2 o3 o4 o5 o6 o7 o8 o9 rr0 rr1 rf0 rf1; have HB := n0_; have BKT := n1_; have BKO := n2_; have BK4 := n3_; clear n0_ n1_ n2_ n3_; have t0 : w5.cell? ⟨gt, 0, none⟩ = some (.slice A0_0 l0_0.length c0_0) := (blk_cell BKT.out 0).trans rfl; have t1 : w5.cell? ⟨gt, 1, none⟩ = some (.int .i64 a0_1) := (blk_cell BKT.out 1).trans rfl; have o0 : w5.cell? ⟨go, 0, none⟩ = some (.int .i64 a1_0) := (blk_cell BKO.out 0).trans rfl; have o1 : w5.cell? ⟨go, 1, none⟩ = some (.int .i64 a1_1) := (blk_cell BKO.out 1).trans rfl; have o2 : w5.cell? ⟨go, 2, none⟩ = some (.int .i64 a1_2) := (blk_cell BKO.out 2).trans rfl; have o3 : w5.cell? ⟨go, 3, none⟩ = some (.int .i64 a1_3) := (blk_cell BKO.out 3).trans rfl; have o4 : w5.cell? ⟨go, 4, none⟩ = some (.int .i64 a1_4) := (blk_cell BKO.out 4).trans rfl; have o5 : w5.cell? ⟨go, 5, none⟩ = some (.int .i64 a1_5) := (blk_cell BKO.out 5).trans rfl; have o6 : w5.cell? ⟨go, 6, none⟩ = some (.bool a1_6) := (blk_cell BKO.out 6).trans rfl; have o7 : w5.cell? ⟨go, 7, none⟩ = some (.int .i64 a1_7) := (blk_cell BKO.out 7).trans rfl; have o8 : w5.cell? ⟨go, 8, none⟩ = some (.int .i64 a1_8) := (blk_cell BKO.out 8).trans rfl; have o9 : w5.cell? ⟨go, 9, none⟩ = some (.int .i64 a1_9) := (blk_cell BKO.out 9).trans rfl; have rr0 : w5.cell? ⟨g4, 0, none⟩ = some (.slice none 0 0) := (blk_cell BK4.out 0).trans rfl; have rr1 : w5.cell? ⟨g4, 1, none⟩ = some (.int .i64 0) := (blk_cell BK4.out 1).trans rfl; have rf0 := blk_frozen BK4.out 0; have rf1 := blk_frozen BK4.out 1)
    | (go_at_call 58; refine (ops_Check.calls a1_0 a1_1 a1_2 a1_3 a1_4 a1_5 a1_6 a1_7 a1_8 a1_9 false _ HOK.out).mono ?_; rintro e w6 ⟨rfl, hb1⟩; have n0_ := Aside0.mk (below_step HB.out hb1); have n1_ := Aside0.mk (blk_below BKT.out hb1); have n2_ := Aside0.mk (blk_below BKO.out hb1); have n3_ := Aside0.mk (blk_below BK4.out hb1); clear hb1 HB BKT BKO BK4; clear t0 t1 o0 o1 o2 o3 o4 o5 o6 o7 o8 o9 rr0 rr1 rf0 rf1; have HB := n0_; have BKT := n1_; have BKO := n2_; have BK4 := n3_; clear n0_ n1_ n2_ n3_; have t0 : w6.cell? ⟨gt, 0, none⟩ = some (.slice A0_0 l0_0.length c0_0) := (blk_cell BKT.out 0).trans rfl; have t1 : w6.cell? ⟨gt, 1, none⟩ = some (.int .i64 a0_1) := (blk_cell BKT.out 1).trans rfl; have o0 : w6.cell? ⟨go, 0, none⟩ = some (.int .i64 a1_0) := (blk_cell BKO.out 0).trans rfl; have o1 : w6.cell? ⟨go, 1, none⟩ = some (.int .i64 a1_1) := (blk_cell BKO.out 1).trans rfl; have o2 : w6.cell? ⟨go, 2, none⟩ = some (.int .i64 a1_2) := (blk_cell BKO.out 2).trans rfl; have o3 : w6.cell? ⟨go, 3, none⟩ = some (.int .i64 a1_3) := (blk_cell BKO.out 3).trans rfl; have o4 : w6.cell? ⟨go, 4, none⟩ = some (.int .i64 a1_4) := (blk_cell BKO.out 4).trans rfl; have o5 : w6.cell? ⟨go, 5, none⟩ = some (.int .i64 a1_5) := (blk_cell BKO.out 5).trans rfl; have o6 : w6.cell? ⟨go, 6, none⟩ = some (.bool a1_6) := (blk_cell BKO.out 6).trans rfl; have o7 : w6.cell? ⟨go, 7, none⟩ = some (.int .i64 a1_7) := (blk_cell BKO.out 7).trans rfl; have o8 : w6.cell? ⟨go, 8, none⟩ = some (.int .i64 a1_8) := (blk_cell BKO.out 8).trans rfl; have o9 : w6.cell? ⟨go, 9, none⟩ = some (.int .i64 a1_9) := (blk_cell BKO.out 9).trans rfl; have rr0 : w6.cell? ⟨g4, 0, none⟩ = some (.slice none 0 0) := (blk_cell BK4.out 0).trans rfl; have rr1 : w6.cell? ⟨g4, 1, none⟩ = some (.int .i64 0) := (blk_cell BK4.out 1).trans rfl; have rf0 := blk_frozen BK4.out 0; have rf1 := blk_frozen BK4.out 1))
   refine bodyPost_ret (results_ct rfl _ _ g4 46 #[.slice none 0 0, .int .i64 0] (0, 0) _ rfl (by first | exact BK4.out | (refine blk_put (cs := #[.slice none 0 0, .int .i64 0]) ?_ 1 _ rfl; refine blk_put (cs := #[.slice none 0 0, .int .i64 0]) ?_ 0 _ rfl; exact BK4.out)) Try.underlying46 rfl (by kernel_rfl)) rfl ?_
   exact ⟨_, rfl, Kd.R_nil _ _ _ _ _, by first | exact HB.out | exact below_set (below_set HB.out G4.out) G4.out⟩
  | true =>
   rw [if_pos rfl] at h2
   unfold applyB at h2
   have HAT : Aside0 (table_at.f l0_0 a0_1 a1_7 = some ((bsAt l0_0 a1_7 : Int), atB l0_0 a1_7)) := ⟨by unfold table_at.f; rw [if_pos (by have := HM.out; omega)]⟩
   have HLE := Aside0.mk (bsAt_le l0_0 a1_7)
   by_cases e1 : a1_0 = 1
   ·rw [if_pos e1] at h2
    have k1 : (a1_0 == 1) = true := beq_iff_eq.mpr e1
    clear e1
    have HAD := Aside0.mk h2
    clear h2
    obtain ⟨p, hp⟩ : ∃ p, bsAt l0_0 a1_7 = p := ⟨_, rfl⟩
    obtain ⟨b7, hb7⟩ : ∃ b, atB l0_0 a1_7 = b := ⟨_, rfl⟩
    rw [hp, hb7] at HAT
    clear hp hb7
    go_enter Try.func37, Try.ntmps37
    go_wp2_with (first
     | ((with_reducible refine gate_dst (N := 2) rfl ?_); refine box_event ?hg (N := 2) ?hd (cs := #[.slice A0_0 l0_0.length c0_0, .int .i64 a0_1]) (t := 46) ?hr ?_; (case hd => rfl); (case hg => rfl); (case hr => first | (go_simp; done) | (go_simp; rfl)); intro gt hg w2 hbox hb; have n0_ := Aside0.mk (below_step HB.out hb); have BKT := Aside0.mk hbox; have GTT := Aside0.mk (show w.heap.size ≤ gt by rw [hg]; exact Nat.le_refl _); clear HB; have HB := n0_; clear n0_; clear hb hbox hg)
     | ((with_reducible refine gate_dst (N := 3) rfl ?_); refine box_event ?hg (N := 3) ?hd (cs := #[.int .i64 a1_0, .int .i64 a1_1, .int .i64 a1_2, .int .i64 a1_3, .int .i64 a1_4, .int .i64 a1_5, .bool a1_6, .int .i64 a1_7, .int .i64 a1_8, .int .i64 a1_9]) (t := 50) ?hr ?_; (case hd => rfl); (case hg => rfl); (case hr => first | (go_simp; done) | (go_simp; rfl)); intro go hg w3 hbox hb; have n0_ := Aside0.mk (below_step HB.out hb); have n1_ := Aside0.mk (blk_below BKT.out hb); have BKO := Aside0.mk hbox; clear HB BKT; have HB := n0_; have BKT := n1_; clear n0_ n1_; clear hb hbox hg)
     | ((with_reducible refine gate_dst (N := 4) rfl ?_); refine box_event ?hg (N := 4) ?hd (cs := #[.slice none 0 0, .int .i64 0]) (t := 46) ?hr ?_; (case hd => rfl); (case hg => rfl); (case hr => first | (go_simp; done) | (go_simp; rfl)); intro g4 hg w4 hbox hb; have n0_ := Aside0.mk (below_step HB.out hb); have n1_ := Aside0.mk (blk_below BKT.out hb); have n2_ := Aside0.mk (blk_below BKO.out hb); have BK4 := Aside0.mk hbox; have G4 := Aside0.mk (show w.heap.size ≤ g4 by rw [hg]; exact below_size HB.out); have N4 := Aside0.mk (show gt ≠ g4 by rw [hg]; exact Nat.ne_of_lt (blk_lt BKT.out)); have N5 := Aside0.mk (show go ≠ g4 by rw [hg]; exact Nat.ne_of_lt (blk_lt BKO.out)); clear HB BKT BKO; have HB := n0_; have BKT := n1_; have BKO := n2_; clear n0_ n1_ n2_; clear hb hbox hg; have t0 : w4.cell? ⟨gt, 0, none⟩ = some (.slice A0_0 l0_0.length c0_0) := (blk_cell BKT.out 0).trans rfl; have t1 : w4.cell? ⟨gt, 1, none⟩ = some (.int .i64 a0_1) := (blk_cell BKT.out 1).trans rfl; have o0 : w4.cell? ⟨go, 0, none⟩ = some (.int .i64 a1_0) := (blk_cell BKO.out 0).trans rfl; have o1 : w4.cell? ⟨go, 1, none⟩ = some (.int .i64 a1_1) := (blk_cell BKO.out 1).trans rfl; have o2 : w4.cell? ⟨go, 2, none⟩ = some (.int .i64 a1_2) := (blk_cell BKO.out 2).trans rfl; have o3 : w4.cell? ⟨go, 3, none⟩ = some (.int .i64 a1_3) := (blk_cell BKO.out 3).trans rfl; have o4 : w4.cell? ⟨go, 4, none⟩ = some (.int .i64 a1_4) := (blk_cell BKO.out 4).trans rfl; have o5 : w4.cell? ⟨go, 5, none⟩ = some (.int .i64 a1_5) := (blk_cell BKO.out 5).trans rfl; have o6 : w4.cell? ⟨go, 6, none⟩ = some (.bool a1_6) := (blk_cell BKO.out 6).trans rfl; have o7 : w4.cell? ⟨go, 7, none⟩ = some (.int .i64 a1_7) := (blk_cell BKO.out 7).trans rfl; have o8 : w4.cell? ⟨go, 8, none⟩ = some (.int .i64 a1_8) := (blk_cell BKO.out 8).trans rfl; have o9 : w4.cell? ⟨go, 9, none⟩ = some (.int .i64 a1_9) := (blk_cell BKO.out 9).trans rfl; have rr0 : w4.cell? ⟨g4, 0, none⟩ = some (.slice none 0 0) := (blk_cell BK4.out 0).trans rfl; have rr1 : w4.cell? ⟨g4, 1, none⟩ = some (.int .i64 0) := (blk_cell BK4.out 1).trans rfl; have rf0 := blk_frozen BK4.out 0; have rf1 := blk_frozen BK4.out 1)
     | (go_at_call 57; refine (table_Check.calls A0_0 c0_0 l0_0 a0_1 true _ (Kd.C_below HR0.out HB.out) HC0.out HCK.out).mono ?_; rintro e w5 ⟨rfl, hb1⟩; have n0_ := Aside0.mk (below_step HB.out hb1); have n1_ := Aside0.mk (blk_below BKT.out hb1); have n2_ := Aside0.mk (blk_below BKO.out hb1); have n3_ := Aside0.mk (blk_below BK4.out hb1); clear hb1 HB BKT BKO BK4; clear t0 t1 o0 o1 o2 o3 o4 o5 o6 o7 o8 o9 rr0 rr1 rf0 rf1; have HB := n0_; have BKT := n1_; have BKO := n2_; have BK4 := n3_; clear n0_ n1_ n2_ n3_; have t0 : w5.cell? ⟨gt, 0, none⟩ = some (.slice A0_0 l0_0.length c0_0) := (blk_cell BKT.out 0).trans rfl; have t1 : w5.cell? ⟨gt, 1, none⟩ = some (.int .i64 a0_1) := (blk_cell BKT.out 1).trans rfl; have o0 : w5.cell? ⟨go, 0, none⟩ = some (.int .i64 a1_0) := (blk_cell BKO.out 0).trans rfl; have o1 : w5.cell? ⟨go, 1, none⟩ = some (.int .i64 a1_1) := (blk_cell BKO.out 1).trans rfl; have o2 : w5.cell? ⟨go, 2, none⟩ = some (.int .i64 a1_2) := (blk_cell BKO.out 2).trans rfl; have o3 : w5.cell? ⟨go, 3, none⟩ = some (.int .i64 a1_3) := (blk_cell BKO.out 3).trans rfl; have o4 : w5.cell? ⟨go, 4, none⟩ = some (.int .i64 a1_4) := (blk_cell BKO.out 4).trans rfl; have o5 : w5.cell? ⟨go, 5, none⟩ = some (.int .i64 a1_5) := (blk_cell BKO.out 5).trans rfl; have o6 : w5.cell? ⟨go, 6, none⟩ = some (.bool a1_6) := (blk_cell BKO.out 6).trans rfl; have o7 : w5.cell? ⟨go, 7, none⟩ = some (.int .i64 a1_7) := (blk_cell BKO.out 7).trans rfl; have o8 : w5.cell? ⟨go, 8, none⟩ = some (.int .i64 a1_8) := (blk_cell BKO.out 8).trans rfl; have o9 : w5.cell? ⟨go, 9, none⟩ = some (.int .i64 a1_9) := (blk_cell BKO.out 9).trans rfl; have rr0 : w5.cell? ⟨g4, 0, none⟩ = some (.slice none 0 0) := (blk_cell BK4.out 0).trans rfl; have rr1 : w5.cell? ⟨g4, 1, none⟩ = some (.int .i64 0) := (blk_cell BK4.out 1).trans rfl; have rf0 := blk_frozen BK4.out 0; have rf1 := blk_frozen BK4.out 1)
     | (go_at_call 58; refine (ops_Check.calls a1_0 a1_1 a1_2 a1_3 a1_4 a1_5 a1_6 a1_7 a1_8 a1_9 true _ HOK.out).mono ?_; rintro e w6 ⟨rfl, hb1⟩; have n0_ := Aside0.mk (below_step HB.out hb1); have n1_ := Aside0.mk (blk_below BKT.out hb1); have n2_ := Aside0.mk (blk_below BKO.out hb1); have n3_ := Aside0.mk (blk_below BK4.out hb1); clear hb1 HB BKT BKO BK4; clear t0 t1 o0 o1 o2 o3 o4 o5 o6 o7 o8 o9 rr0 rr1 rf0 rf1; have HB := n0_; have BKT := n1_; have BKO := n2_; have BK4 := n3_; clear n0_ n1_ n2_ n3_; have t0 : w6.cell? ⟨gt, 0, none⟩ = some (.slice A0_0 l0_0.length c0_0) := (blk_cell BKT.out 0).trans rfl; have t1 : w6.cell? ⟨gt, 1, none⟩ = some (.int .i64 a0_1) := (blk_cell BKT.out 1).trans rfl; have o0 : w6.cell? ⟨go, 0, none⟩ = some (.int .i64 a1_0) := (blk_cell BKO.out 0).trans rfl; have o1 : w6.cell? ⟨go, 1, none⟩ = some (.int .i64 a1_1) := (blk_cell BKO.out 1).trans rfl; have o2 : w6.cell? ⟨go, 2, none⟩ = some (.int .i64 a1_2) := (blk_cell BKO.out 2).trans rfl; have o3 : w6.cell? ⟨go, 3, none⟩ = some (.int .i64 a1_3) := (blk_cell BKO.out 3).trans rfl; have o4 : w6.cell? ⟨go, 4, none⟩ = some (.int .i64 a1_4) := (blk_cell BKO.out 4).trans rfl; have o5 : w6.cell? ⟨go, 5, none⟩ = some (.int .i64 a1_5) := (blk_cell BKO.out 5).trans rfl; have o6 : w6.cell? ⟨go, 6, none⟩ = some (.bool a1_6) := (blk_cell BKO.out 6).trans rfl; have o7 : w6.cell? ⟨go, 7, none⟩ = some (.int .i64 a1_7) := (blk_cell BKO.out 7).trans rfl; have o8 : w6.cell? ⟨go, 8, none⟩ = some (.int .i64 a1_8) := (blk_cell BKO.out 8).trans rfl; have o9 : w6.cell? ⟨go, 9, none⟩ = some (.int .i64 a1_9) := (blk_cell BKO.out 9).trans rfl; have rr0 : w6.cell? ⟨g4, 0, none⟩ = some (.slice none 0 0) := (blk_cell BK4.out 0).trans rfl; have rr1 : w6.cell? ⟨g4, 1, none⟩ = some (.int .i64 0) := (blk_cell BK4.out 1).trans rfl; have rf0 := blk_frozen BK4.out 0; have rf1 := blk_frozen BK4.out 1)
     | (go_at_call 59; refine (table_at.calls A0_0 c0_0 l0_0 a0_1 a1_7 _ _ _ (Kd.C_below HR0.out HB.out) HC0.out HAT.out).mono ?_; rintro e w7 ⟨rfl, hb1⟩; have n0_ := Aside0.mk (below_step HB.out hb1); have n1_ := Aside0.mk (blk_below BKT.out hb1); have n2_ := Aside0.mk (blk_below BKO.out hb1); have n3_ := Aside0.mk (blk_below BK4.out hb1); clear hb1 HB BKT BKO BK4; clear t0 t1 o0 o1 o2 o3 o4 o5 o6 o7 o8 o9 rr0 rr1 rf0 rf1; have HB := n0_; have BKT := n1_; have BKO := n2_; have BK4 := n3_; clear n0_ n1_ n2_ n3_; have t0 : w7.cell? ⟨gt, 0, none⟩ = some (.slice A0_0 l0_0.length c0_0) := (blk_cell BKT.out 0).trans rfl; have t1 : w7.cell? ⟨gt, 1, none⟩ = some (.int .i64 a0_1) := (blk_cell BKT.out 1).trans rfl; have o0 : w7.cell? ⟨go, 0, none⟩ = some (.int .i64 a1_0) := (blk_cell BKO.out 0).trans rfl; have o1 : w7.cell? ⟨go, 1, none⟩ = some (.int .i64 a1_1) := (blk_cell BKO.out 1).trans rfl; have o2 : w7.cell? ⟨go, 2, none⟩ = some (.int .i64 a1_2) := (blk_cell BKO.out 2).trans rfl; have o3 : w7.cell? ⟨go, 3, none⟩ = some (.int .i64 a1_3) := (blk_cell BKO.out 3).trans rfl; have o4 : w7.cell? ⟨go, 4, none⟩ = some (.int .i64 a1_4) := (blk_cell BKO.out 4).trans rfl; have o5 : w7.cell? ⟨go, 5, none⟩ = some (.int .i64 a1_5) := (blk_cell BKO.out 5).trans rfl; have o6 : w7.cell? ⟨go, 6, none⟩ = some (.bool a1_6) := (blk_cell BKO.out 6).trans rfl; have o7 : w7.cell? ⟨go, 7, none⟩ = some (.int .i64 a1_7) := (blk_cell BKO.out 7).trans rfl; have o8 : w7.cell? ⟨go, 8, none⟩ = some (.int .i64 a1_8) := (blk_cell BKO.out 8).trans rfl; have o9 : w7.cell? ⟨go, 9, none⟩ = some (.int .i64 a1_9) := (blk_cell BKO.out 9).trans rfl; have rr0 : w7.cell? ⟨g4, 0, none⟩ = some (.slice none 0 0) := (blk_cell BK4.out 0).trans rfl; have rr1 : w7.cell? ⟨g4, 1, none⟩ = some (.int .i64 0) := (blk_cell BK4.out 1).trans rfl; have rf0 := blk_frozen BK4.out 0; have rf1 := blk_frozen BK4.out 1)
     | (go_at_call 60; refine (table_admits.calls A0_0 c0_0 l0_0 a0_1 a1_0 a1_1 a1_2 a1_3 a1_4 a1_5 a1_6 a1_7 a1_8 a1_9 r1 r2 r3 _ (Kd.C_below HR0.out HB.out) HC0.out HAD.out).mono ?_; rintro e w8 ⟨v8, rfl, hr, hb1⟩; obtain ⟨A8, c8, rfl⟩ := Kd.R_slice hr; have HR6 := Aside0.mk (Kd.R_lower hr (below_size HB.out)); clear hr; have n0_ := Aside0.mk (below_step HB.out hb1); have n1_ := Aside0.mk (blk_below BKT.out hb1); have n2_ := Aside0.mk (blk_below BKO.out hb1); have n3_ := Aside0.mk (blk_below BK4.out hb1); clear hb1 HB BKT BKO BK4; clear t0 t1 o0 o1 o2 o3 o4 o5 o6 o7 o8 o9 rr0 rr1 rf0 rf1; have HB := n0_; have BKT := n1_; have BKO := n2_; have BK4 := n3_; clear n0_ n1_ n2_ n3_; have t0 : w8.cell? ⟨gt, 0, none⟩ = some (.slice A0_0 l0_0.length c0_0) := (blk_cell BKT.out 0).trans rfl; have t1 : w8.cell? ⟨gt, 1, none⟩ = some (.int .i64 a0_1) := (blk_cell BKT.out 1).trans rfl; have o0 : w8.cell? ⟨go, 0, none⟩ = some (.int .i64 a1_0) := (blk_cell BKO.out 0).trans rfl; have o1 : w8.cell? ⟨go, 1, none⟩ = some (.int .i64 a1_1) := (blk_cell BKO.out 1).trans rfl; have o2 : w8.cell? ⟨go, 2, none⟩ = some (.int .i64 a1_2) := (blk_cell BKO.out 2).trans rfl; have o3 : w8.cell? ⟨go, 3, none⟩ = some (.int .i64 a1_3) := (blk_cell BKO.out 3).trans rfl; have o4 : w8.cell? ⟨go, 4, none⟩ = some (.int .i64 a1_4) := (blk_cell BKO.out 4).trans rfl; have o5 : w8.cell? ⟨go, 5, none⟩ = some (.int .i64 a1_5) := (blk_cell BKO.out 5).trans rfl; have o6 : w8.cell? ⟨go, 6, none⟩ = some (.bool a1_6) := (blk_cell BKO.out 6).trans rfl; have o7 : w8.cell? ⟨go, 7, none⟩ = some (.int .i64 a1_7) := (blk_cell BKO.out 7).trans rfl; have o8 : w8.cell? ⟨go, 8, none⟩ = some (.int .i64 a1_8) := (blk_cell BKO.out 8).trans rfl; have o9 : w8.cell? ⟨go, 9, none⟩ = some (.int .i64 a1_9) := (blk_cell BKO.out 9).trans rfl; have rr0 : w8.cell? ⟨g4, 0, none⟩ = some (.slice none 0 0) := (blk_cell BK4.out 0).trans rfl; have rr1 : w8.cell? ⟨g4, 1, none⟩ = some (.int .i64 0) := (blk_cell BK4.out 1).trans rfl; have rf0 := blk_frozen BK4.out 0; have rf1 := blk_frozen BK4.out 1))
    refine bodyPost_ret (results_ct rfl _ _ g4 46 #[.slice A8 r1.length c8, .int .i64 r2] (0, 0) _ rfl (by refine blk_put (cs := #[.slice A8 r1.length c8, .int .i64 0]) ?_ 1 _ rfl; refine blk_put (cs := #[.slice none 0 0, .int .i64 0]) ?_ 0 _ rfl; exact BK4.out) Try.underlying46 rfl (by kernel_rfl)) rfl ?_
    exact ⟨_, rfl, Kd.R_set (Kd.R_set HR6.out BK4.out (by decide) 0 _) (blk_set BK4.out 0 _) (by decide) 1 _, by first | exact HB.out | exact below_set (below_set HB.out G4.out) G4.out⟩
   ·rw [if_neg e1] at h2
    by_cases e4 : a1_0 = 4
    ·rw [if_pos e4] at h2
     have k1 : (a1_0 == 1) = false := beq_eq_false_iff_ne.mpr e1
     have k4 : (a1_0 == 4) = true := beq_iff_eq.mpr e4
     clear e1 e4
     obtain ⟨t, ht, h3⟩ := Option.bind_eq_some_iff.mp h2
     obtain ⟨rfl, rfl, rfl⟩ : t = r1 ∧ a1_9 = r2 ∧ (0 : Int) = r3 := by simpa using h3
     have HCL := Aside0.mk ht
     clear h2 h3 ht
     obtain ⟨p, hp⟩ : ∃ p, bsAt l0_0 a1_7 = p := ⟨_, rfl⟩
     obtain ⟨b7, hb7⟩ : ∃ b, atB l0_0 a1_7 = b := ⟨_, rfl⟩
     rw [hp, hb7] at HAT
     clear hp hb7
     go_enter Try.func37, Try.ntmps37
     go_upto_region 7 with (first
      | ((with_reducible refine gate_dst (N := 2) rfl ?_); refine box_event ?hg (N := 2) ?hd (cs := #[.slice A0_0 l0_0.length c0_0, .int .i64 a0_1]) (t := 46) ?hr ?_; (case hd => rfl); (case hg => rfl); (case hr => first | (go_simp; done) | (go_simp; rfl)); intro gt hg w2 hbox hb; have n0_ := Aside0.mk (below_step HB.out hb); have BKT := Aside0.mk hbox; have GTT := Aside0.mk (show w.heap.size ≤ gt by rw [hg]; exact Nat.le_refl _); clear HB; have HB := n0_; clear n0_; clear hb hbox hg)
      | ((with_reducible refine gate_dst (N := 3) rfl ?_); refine box_event ?hg (N := 3) ?hd (cs := #[.int .i64 a1_0, .int .i64 a1_1, .int .i64 a1_2, .int .i64 a1_3, .int .i64 a1_4, .int .i64 a1_5, .bool a1_6, .int .i64 a1_7, .int .i64 a1_8, .int .i64 a1_9]) (t := 50) ?hr ?_; (case hd => rfl); (case hg => rfl); (case hr => first | (go_simp; done) | (go_simp; rfl)); intro go hg w3 hbox hb; have n0_ := Aside0.mk (below_step HB.out hb); have n1_ := Aside0.mk (blk_below BKT.out hb); have BKO := Aside0.mk hbox; clear HB BKT; have HB := n0_; have BKT := n1_; clear n0_ n1_; clear hb hbox hg)
      | ((with_reducible refine gate_dst (N := 4) rfl ?_); refine box_event ?hg (N := 4) ?hd (cs := #[.slice none 0 0, .int .i64 0]) (t := 46) ?hr ?_; (case hd => rfl); (case hg => rfl); (case hr => first | (go_simp; done) | (go_simp; rfl)); intro g4 hg w4 hbox hb; have n0_ := Aside0.mk (below_step HB.out hb); have n1_ := Aside0.mk (blk_below BKT.out hb); have n2_ := Aside0.mk (blk_below BKO.out hb); have BK4 := Aside0.mk hbox; have G4 := Aside0.mk (show w.heap.size ≤ g4 by rw [hg]; exact below_size HB.out); have N4 := Aside0.mk (show gt ≠ g4 by rw [hg]; exact Nat.ne_of_lt (blk_lt BKT.out)); have N5 := Aside0.mk (show go ≠ g4 by rw [hg]; exact Nat.ne_of_lt (blk_lt BKO.out)); clear HB BKT BKO; have HB := n0_; have BKT := n1_; have BKO := n2_; clear n0_ n1_ n2_; clear hb hbox hg; have t0 : w4.cell? ⟨gt, 0, none⟩ = some (.slice A0_0 l0_0.length c0_0) := (blk_cell BKT.out 0).trans rfl; have t1 : w4.cell? ⟨gt, 1, none⟩ = some (.int .i64 a0_1) := (blk_cell BKT.out 1).trans rfl; have o0 : w4.cell? ⟨go, 0, none⟩ = some (.int .i64 a1_0) := (blk_cell BKO.out 0).trans rfl; have o1 : w4.cell? ⟨go, 1, none⟩ = some (.int .i64 a1_1) := (blk_cell BKO.out 1).trans rfl; have o2 : w4.cell? ⟨go, 2, none⟩ = some (.int .i64 a1_2) := (blk_cell BKO.out 2).trans rfl; have o3 : w4.cell? ⟨go, 3, none⟩ = some (.int .i64 a1_3) := (blk_cell BKO.out 3).trans rfl; have o4 : w4.cell? ⟨go, 4, none⟩ = some (.int .i64 a1_4) := (blk_cell BKO.out 4).trans rfl; have o5 : w4.cell? ⟨go, 5, none⟩ = some (.int .i64 a1_5) := (blk_cell BKO.out 5).trans rfl; have o6 : w4.cell? ⟨go, 6, none⟩ = some (.bool a1_6) := (blk_cell BKO.out 6).trans rfl; have o7 : w4.cell? ⟨go, 7, none⟩ = some (.int .i64 a1_7) := (blk_cell BKO.out 7).trans rfl; have o8 : w4.cell? ⟨go, 8, none⟩ = some (.int .i64 a1_8) := (blk_cell BKO.out 8).trans rfl; have o9 : w4.cell? ⟨go, 9, none⟩ = some (.int .i64 a1_9) := (blk_cell BKO.out 9).trans rfl; have rr0 : w4.cell? ⟨g4, 0, none⟩ = some (.slice none 0 0) := (blk_cell BK4.out 0).trans rfl; have rr1 : w4.cell? ⟨g4, 1, none⟩ = some (.int .i64 0) := (blk_cell BK4.out 1).trans rfl; have rf0 := blk_frozen BK4.out 0; have rf1 := blk_frozen BK4.out 1)
      | (go_at_call 57; refine (table_Check.calls A0_0 c0_0 l0_0 a0_1 true _ (Kd.C_below HR0.out HB.out) HC0.out HCK.out).mono ?_; rintro e w5 ⟨rfl, hb1⟩; have n0_ := Aside0.mk (below_step HB.out hb1); have n1_ := Aside0.mk (blk_below BKT.out hb1); have n2_ := Aside0.mk (blk_below BKO.out hb1); have n3_ := Aside0.mk (blk_below BK4.out hb1); clear hb1 HB BKT BKO BK4; clear t0 t1 o0 o1 o2 o3 o4 o5 o6 o7 o8 o9 rr0 rr1 rf0 rf1; have HB := n0_; have BKT := n1_; have BKO := n2_; have BK4 := n3_; clear n0_ n1_ n2_ n3_; have t0 : w5.cell? ⟨gt, 0, none⟩ = some (.slice A0_0 l0_0.length c0_0) := (blk_cell BKT.out 0).trans rfl; have t1 : w5.cell? ⟨gt, 1, none⟩ = some (.int .i64 a0_1) := (blk_cell BKT.out 1).trans rfl; have o0 : w5.cell? ⟨go, 0, none⟩ = some (.int .i64 a1_0) := (blk_cell BKO.out 0).trans rfl; have o1 : w5.cell? ⟨go, 1, none⟩ = some (.int .i64 a1_1) := (blk_cell BKO.out 1).trans rfl; have o2 : w5.cell? ⟨go, 2, none⟩ = some (.int .i64 a1_2) := (blk_cell BKO.out 2).trans rfl; have o3 : w5.cell? ⟨go, 3, none⟩ = some (.int .i64 a1_3) := (blk_cell BKO.out 3).trans rfl; have o4 : w5.cell? ⟨go, 4, none⟩ = some (.int .i64 a1_4) := (blk_cell BKO.out 4).trans rfl; have o5 : w5.cell? ⟨go, 5, none⟩ = some (.int .i64 a1_5) := (blk_cell BKO.out 5).trans rfl; have o6 : w5.cell? ⟨go, 6, none⟩ = some (.bool a1_6) := (blk_cell BKO.out 6).trans rfl; have o7 : w5.cell? ⟨go, 7, none⟩ = some (.int .i64 a1_7) := (blk_cell BKO.out 7).trans rfl; have o8 : w5.cell? ⟨go, 8, none⟩ = some (.int .i64 a1_8) := (blk_cell BKO.out 8).trans rfl; have o9 : w5.cell? ⟨go, 9, none⟩ = some (.int .i64 a1_9) := (blk_cell BKO.out 9).trans rfl; have rr0 : w5.cell? ⟨g4, 0, none⟩ = some (.slice none 0 0) := (blk_cell BK4.out 0).trans rfl; have rr1 : w5.cell? ⟨g4, 1, none⟩ = some (.int .i64 0) := (blk_cell BK4.out 1).trans rfl; have rf0 := blk_frozen BK4.out 0; have rf1 := blk_frozen BK4.out 1)
      | (go_at_call 58; refine (ops_Check.calls a1_0 a1_1 a1_2 a1_3 a1_4 a1_5 a1_6 a1_7 a1_8 a1_9 true _ HOK.out).mono ?_; rintro e w6 ⟨rfl, hb1⟩; have n0_ := Aside0.mk (below_step HB.out hb1); have n1_ := Aside0.mk (blk_below BKT.out hb1); have n2_ := Aside0.mk (blk_below BKO.out hb1); have n3_ := Aside0.mk (blk_below BK4.out hb1); clear hb1 HB BKT BKO BK4; clear t0 t1 o0 o1 o2 o3 o4 o5 o6 o7 o8 o9 rr0 rr1 rf0 rf1; have HB := n0_; have BKT := n1_; have BKO := n2_; have BK4 := n3_; clear n0_ n1_ n2_ n3_; have t0 : w6.cell? ⟨gt, 0, none⟩ = some (.slice A0_0 l0_0.length c0_0) := (blk_cell BKT.out 0).trans rfl; have t1 : w6.cell? ⟨gt, 1, none⟩ = some (.int .i64 a0_1) := (blk_cell BKT.out 1).trans rfl; have o0 : w6.cell? ⟨go, 0, none⟩ = some (.int .i64 a1_0) := (blk_cell BKO.out 0).trans rfl; have o1 : w6.cell? ⟨go, 1, none⟩ = some (.int .i64 a1_1) := (blk_cell BKO.out 1).trans rfl; have o2 : w6.cell? ⟨go, 2, none⟩ = some (.int .i64 a1_2) := (blk_cell BKO.out 2).trans rfl; have o3 : w6.cell? ⟨go, 3, none⟩ = some (.int .i64 a1_3) := (blk_cell BKO.out 3).trans rfl; have o4 : w6.cell? ⟨go, 4, none⟩ = some (.int .i64 a1_4) := (blk_cell BKO.out 4).trans rfl; have o5 : w6.cell? ⟨go, 5, none⟩ = some (.int .i64 a1_5) := (blk_cell BKO.out 5).trans rfl; have o6 : w6.cell? ⟨go, 6, none⟩ = some (.bool a1_6) := (blk_cell BKO.out 6).trans rfl; have o7 : w6.cell? ⟨go, 7, none⟩ = some (.int .i64 a1_7) := (blk_cell BKO.out 7).trans rfl; have o8 : w6.cell? ⟨go, 8, none⟩ = some (.int .i64 a1_8) := (blk_cell BKO.out 8).trans rfl; have o9 : w6.cell? ⟨go, 9, none⟩ = some (.int .i64 a1_9) := (blk_cell BKO.out 9).trans rfl; have rr0 : w6.cell? ⟨g4, 0, none⟩ = some (.slice none 0 0) := (blk_cell BK4.out 0).trans rfl; have rr1 : w6.cell? ⟨g4, 1, none⟩ = some (.int .i64 0) := (blk_cell BK4.out 1).trans rfl; have rf0 := blk_frozen BK4.out 0; have rf1 := blk_frozen BK4.out 1)
      | (go_at_call 59; refine (table_at.calls A0_0 c0_0 l0_0 a0_1 a1_7 _ _ _ (Kd.C_below HR0.out HB.out) HC0.out HAT.out).mono ?_; rintro e w7 ⟨rfl, hb1⟩; have n0_ := Aside0.mk (below_step HB.out hb1); have n1_ := Aside0.mk (blk_below BKT.out hb1); have n2_ := Aside0.mk (blk_below BKO.out hb1); have n3_ := Aside0.mk (blk_below BK4.out hb1); clear hb1 HB BKT BKO BK4; clear t0 t1 o0 o1 o2 o3 o4 o5 o6 o7 o8 o9 rr0 rr1 rf0 rf1; have HB := n0_; have BKT := n1_; have BKO := n2_; have BK4 := n3_; clear n0_ n1_ n2_ n3_; have t0 : w7.cell? ⟨gt, 0, none⟩ = some (.slice A0_0 l0_0.length c0_0) := (blk_cell BKT.out 0).trans rfl; have t1 : w7.cell? ⟨gt, 1, none⟩ = some (.int .i64 a0_1) := (blk_cell BKT.out 1).trans rfl; have o0 : w7.cell? ⟨go, 0, none⟩ = some (.int .i64 a1_0) := (blk_cell BKO.out 0).trans rfl; have o1 : w7.cell? ⟨go, 1, none⟩ = some (.int .i64 a1_1) := (blk_cell BKO.out 1).trans rfl; have o2 : w7.cell? ⟨go, 2, none⟩ = some (.int .i64 a1_2) := (blk_cell BKO.out 2).trans rfl; have o3 : w7.cell? ⟨go, 3, none⟩ = some (.int .i64 a1_3) := (blk_cell BKO.out 3).trans rfl; have o4 : w7.cell? ⟨go, 4, none⟩ = some (.int .i64 a1_4) := (blk_cell BKO.out 4).trans rfl; have o5 : w7.cell? ⟨go, 5, none⟩ = some (.int .i64 a1_5) := (blk_cell BKO.out 5).trans rfl; have o6 : w7.cell? ⟨go, 6, none⟩ = some (.bool a1_6) := (blk_cell BKO.out 6).trans rfl; have o7 : w7.cell? ⟨go, 7, none⟩ = some (.int .i64 a1_7) := (blk_cell BKO.out 7).trans rfl; have o8 : w7.cell? ⟨go, 8, none⟩ = some (.int .i64 a1_8) := (blk_cell BKO.out 8).trans rfl; have o9 : w7.cell? ⟨go, 9, none⟩ = some (.int .i64 a1_9) := (blk_cell BKO.out 9).trans rfl; have rr0 : w7.cell? ⟨g4, 0, none⟩ = some (.slice none 0 0) := (blk_cell BK4.out 0).trans rfl; have rr1 : w7.cell? ⟨g4, 1, none⟩ = some (.int .i64 0) := (blk_cell BK4.out 1).trans rfl; have rf0 := blk_frozen BK4.out 0; have rf1 := blk_frozen BK4.out 1))
     (try simp only [Act.put, List.setIfInBounds_toArray, List.set_cons_zero, List.set_cons_succ])
     replace HB := Aside0.mk (below_drew1 HB.out)
     replace BKT := Aside0.mk (blk_drew BKT.out)
     replace BKO := Aside0.mk (blk_drew BKO.out)
     replace BK4 := Aside0.mk (blk_drew BK4.out)
     refine start_ (n := 8) (S := fun w' => w'.cell? ⟨gt, 0, none⟩ = some (.slice A0_0 l0_0.length c0_0) ∧ w'.cell? ⟨go, 9, none⟩ = some (.int .i64 a1_9)) (ds := []) (pre_ 8 0) (by kernel_rfl) rfl rfl ⟨t0, o9⟩ (fun hHeld => ?_); refine with_tabW table_Apply.tab7 table_Apply.bits7 (fun HT_ HW_ => ?_)
     generalize w7.drew = w8 at HB BKT BKO BK4 hHeld ⊢
     iterate 2 (first
      | (refine pureJ_ (v := undef) (a' := ?_) rfl rfl (any_of HT_.out (by kernel_rfl)) (fun _ _ _ h => h) (by (try simp only [Nat.reduceAdd]); first | done | rfl) (Or.inr ⟨by rfl, rfl⟩) ?_ ?_; rotate_left; (simp only [Act.put, List.setIfInBounds_toArray, List.set_cons_zero, List.set_cons_succ, i64_w, i32_w]; rfl))
      | (refine pureJ_ (v := ?_) (a' := ?_) rfl rfl (any_of HT_.out (by kernel_rfl)) (fun _ _ _ h => h) (by (try simp only [Nat.reduceAdd]); first | done | rfl) (Or.inl ⟨by rfl, ?_⟩) ?_ ?_; rotate_left; (intro w'; go_simp; with_reducible rfl); rotate_left; (simp only [Act.put, List.setIfInBounds_toArray, List.set_cons_zero, List.set_cons_succ, i64_w, i32_w]; rfl))
      | (refine takeJ_ (v := ?_) (a' := ?_) rfl rfl (take_ofW HT_.out HW_.out (by kernel_rfl)) (fun _ _ _ h => h) (by (try simp only [Nat.reduceAdd]); first | done | rfl) (Or.inl ⟨by rfl, ?_⟩) hHeld ?_ ?_; rotate_left; (rintro w' ⟨s0_, s1_⟩; go_simp; with_reducible rfl); rotate_left; (simp only [Act.put, List.setIfInBounds_toArray, List.set_cons_zero, List.set_cons_succ, i64_w, i32_w]; rfl)))
     refine pure_ (i := 3) (N := some 41) (v := ?_) (a' := ?_) (ms_ 8 11) rfl rfl (any_of HT_.out (by kernel_rfl)) (fun _ _ _ h => h) (Or.inl ⟨by rfl, ?_⟩) ?_ ?_; rotate_left; (intro w'; go_simp; with_reducible rfl); rotate_left; (simp only [Act.put, List.setIfInBounds_toArray, List.set_cons_zero, List.set_cons_succ, i64_w, i32_w]; rfl)
     refine take_ (i := 4) (N := some 42) (v := ?_) (a' := ?_) (ms_ 8 27) rfl rfl (take_ofW HT_.out HW_.out (by kernel_rfl)) (fun _ _ _ h => h) (Or.inl ⟨by rfl, ?_⟩) hHeld ?_ ?_; rotate_left; (rintro w' ⟨s0_, s1_⟩; go_simp; with_reducible rfl); rotate_left; (simp only [Act.put, List.setIfInBounds_toArray, List.set_cons_zero, List.set_cons_succ, i64_w, i32_w]; rfl)
     refine one_ (i := 2) (N := some 40) (pre_ 8 5) rfl rfl (one_of HT_.out (by kernel_rfl)) (by decide) (fun K_ hK => ?_)
     refine goes_ Try.func61 (by kernel_rfl) rfl #[.slice A0_0 l0_0.length c0_0] (by rfl) rfl rfl (by (try simp only [List.map_toArray, List.map_cons, List.map_nil]); first | done | rfl) ?_
     refine (slices_Clone_api_Row.calls A0_0 c0_0 l0_0 t w8 (Kd.C_below HR0.out HB.out) HC0.out HCL.out).mono ?_
     rintro e w9 ⟨v9, rfl, hr, hb1⟩
     refine ⟨_, rfl, ?_⟩
     obtain ⟨A9, c9, rfl⟩ := Kd.R_slice hr
     have HR6 := Aside0.mk (Kd.R_lower hr (below_size HB.out))
     have n0_ := Aside0.mk (below_step HB.out hb1)
     have n1_ := Aside0.mk (blk_below BKT.out hb1)
     have n2_ := Aside0.mk (blk_below BKO.out hb1)
     have n3_ := Aside0.mk (blk_below BK4.out hb1)
     clear hb1 HB BKT BKO BK4 hr
     have HB := n0_
     have BKT := n1_
     have BKO := n2_
     have BK4 := n3_
     clear n0_ n1_ n2_ n3_
     refine hK.out _ _ ⟨(blk_cell BKT.out 0).trans rfl, (blk_cell BKO.out 9).trans rfl⟩ (fun hHeld => ?_)
     clear hK K_
     refine norm_ (a' := ?_) ?_ ?_
     rotate_left; (show Act.put _ (some 40) _ = _; simp only [Act.put, List.setIfInBounds_toArray, List.set_cons_zero, List.set_cons_succ, i64_w, i32_w]; rfl)
     refine pure_ (i := 5) (N := some 43) (v := ?_) (a' := ?_) (ms_ 8 63) rfl rfl (any_of HT_.out (by kernel_rfl)) (fun _ _ _ h => h) (Or.inl ⟨by rfl, ?_⟩) ?_ ?_; rotate_left; (intro w'; go_simp; with_reducible rfl); rotate_left; (simp only [Act.put, List.setIfInBounds_toArray, List.set_cons_zero, List.set_cons_succ, i64_w, i32_w]; rfl)
     refine one_ (i := 6) (N := none) (pre_ 8 7) rfl rfl (one_of HT_.out (by kernel_rfl)) (by decide) (fun K_ hK => ?_)
     have rr0 : w9.cell? ⟨g4, 0, none⟩ = some (.slice none 0 0) := (blk_cell BK4.out 0).trans rfl
     have rr1 : w9.cell? ⟨g4, 1, none⟩ = some (.int .i64 0) := (blk_cell BK4.out 1).trans rfl
     have rf0 := blk_frozen BK4.out 0
     have rf1 := blk_frozen BK4.out 1
     have n1_ : Aside0 (((w9.setCell ⟨g4, 0, none⟩ (.slice A9 t.length c9)).setCell ⟨g4, 1, none⟩ (.int .i64 a1_9)).heap[gt]? = some (.cells #[.slice A0_0 l0_0.length c0_0, .int .i64 a0_1] 46 (0, 0))) := ⟨blk_far (p := ⟨g4, 1, none⟩) (blk_far (p := ⟨g4, 0, none⟩) BKT.out N4.out _) N4.out _⟩
     have n2_ : Aside0 (((w9.setCell ⟨g4, 0, none⟩ (.slice A9 t.length c9)).setCell ⟨g4, 1, none⟩ (.int .i64 a1_9)).heap[go]? = some (.cells #[.int .i64 a1_0, .int .i64 a1_1, .int .i64 a1_2, .int .i64 a1_3, .int .i64 a1_4, .int .i64 a1_5, .bool a1_6, .int .i64 a1_7, .int .i64 a1_8, .int .i64 a1_9] 50 (0, 0))) := ⟨blk_far (p := ⟨g4, 1, none⟩) (blk_far (p := ⟨g4, 0, none⟩) BKO.out N5.out _) N5.out _⟩
     refine skip_ (w1 := ?_) (by rfl) rfl ?_ ?_
     rotate_left
     ·go_simp
      rfl
     refine hK.out _ _ ⟨(blk_cell n1_.out 0).trans rfl, (blk_cell n2_.out 9).trans rfl⟩ (fun hHeld => ?_)
     clear hK K_
     refine pure_ (i := 7) (N := some 5) (v := ?_) (a' := ?_) (ms_ 8 255) rfl rfl (any_of HT_.out (by kernel_rfl)) (fun _ _ _ h => h) (Or.inl ⟨by rfl, ?_⟩) ?_ ?_; rotate_left; (intro w'; go_simp; with_reducible rfl); rotate_left; (simp only [Act.put, List.setIfInBounds_toArray, List.set_cons_zero, List.set_cons_succ, i64_w, i32_w]; rfl)
     refine done_ (done_of HT_.out (by kernel_rfl)) ?_
     try go_wp2
     refine bodyPost_ret (results_ct rfl _ _ g4 46 #[.slice A9 t.length c9, .int .i64 a1_9] (0, 0) _ rfl (by refine blk_put (cs := #[.slice A9 t.length c9, .int .i64 0]) ?_ 1 _ rfl; refine blk_put (cs := #[.slice none 0 0, .int .i64 0]) ?_ 0 _ rfl; exact BK4.out) Try.underlying46 rfl (by kernel_rfl)) rfl ?_
     exact ⟨_, rfl, Kd.R_set (Kd.R_set HR6.out BK4.out (by decide) 0 _) (blk_set BK4.out 0 _) (by decide) 1 _, by first | exact HB.out | exact below_set (below_set HB.out G4.out) G4.out⟩
    ·rw [if_neg e4] at h2
     cases hat : atB l0_0 a1_7 with
     | false =>
      rw [hat] at h2 HAT
      rw [if_neg (by decide)] at h2
      obtain ⟨rfl, rfl, rfl⟩ : [] = r1 ∧ (0 : Int) = r2 ∧ (12 : Int) = r3 := by simpa using h2
      have k1 : (a1_0 == 1) = false := beq_eq_false_iff_ne.mpr e1
      have k4 : (a1_0 == 4) = false := beq_eq_false_iff_ne.mpr e4
      clear h2 hat e1 e4
      obtain ⟨p, hp⟩ : ∃ p, bsAt l0_0 a1_7 = p := ⟨_, rfl⟩
      rw [hp] at HAT
      clear hp
      go_enter Try.func37, Try.ntmps37
      go_wp2_with (first
       | ((with_reducible refine gate_dst (N := 2) rfl ?_); refine box_event ?hg (N := 2) ?hd (cs := #[.slice A0_0 l0_0.length c0_0, .int .i64 a0_1]) (t := 46) ?hr ?_; (case hd => rfl); (case hg => rfl); (case hr => first | (go_simp; done) | (go_simp; rfl)); intro gt hg w2 hbox hb; have n0_ := Aside0.mk (below_step HB.out hb); have BKT := Aside0.mk hbox; have GTT := Aside0.mk (show w.heap.size ≤ gt by rw [hg]; exact Nat.le_refl _); clear HB; have HB := n0_; clear n0_; clear hb hbox hg)
       | ((with_reducible refine gate_dst (N := 3) rfl ?_); refine box_event ?hg (N := 3) ?hd (cs := #[.int .i64 a1_0, .int .i64 a1_1, .int .i64 a1_2, .int .i64 a1_3, .int .i64 a1_4, .int .i64 a1_5, .bool a1_6, .int .i64 a1_7, .int .i64 a1_8, .int .i64 a1_9]) (t := 50) ?hr ?_; (case hd => rfl); (case hg => rfl); (case hr => first | (go_simp; done) | (go_simp; rfl)); intro go hg w3 hbox hb; have n0_ := Aside0.mk (below_step HB.out hb); have n1_ := Aside0.mk (blk_below BKT.out hb); have BKO := Aside0.mk hbox; clear HB BKT; have HB := n0_; have BKT := n1_; clear n0_ n1_; clear hb hbox hg)
       | ((with_reducible refine gate_dst (N := 4) rfl ?_); refine box_event ?hg (N := 4) ?hd (cs := #[.slice none 0 0, .int .i64 0]) (t := 46) ?hr ?_; (case hd => rfl); (case hg => rfl); (case hr => first | (go_simp; done) | (go_simp; rfl)); intro g4 hg w4 hbox hb; have n0_ := Aside0.mk (below_step HB.out hb); have n1_ := Aside0.mk (blk_below BKT.out hb); have n2_ := Aside0.mk (blk_below BKO.out hb); have BK4 := Aside0.mk hbox; have G4 := Aside0.mk (show w.heap.size ≤ g4 by rw [hg]; exact below_size HB.out); have N4 := Aside0.mk (show gt ≠ g4 by rw [hg]; exact Nat.ne_of_lt (blk_lt BKT.out)); have N5 := Aside0.mk (show go ≠ g4 by rw [hg]; exact Nat.ne_of_lt (blk_lt BKO.out)); clear HB BKT BKO; have HB := n0_; have BKT := n1_; have BKO := n2_; clear n0_ n1_ n2_; clear hb hbox hg; have t0 : w4.cell? ⟨gt, 0, none⟩ = some (.slice A0_0 l0_0.length c0_0) := (blk_cell BKT.out 0).trans rfl; have t1 : w4.cell? ⟨gt, 1, none⟩ = some (.int .i64 a0_1) := (blk_cell BKT.out 1).trans rfl; have o0 : w4.cell? ⟨go, 0, none⟩ = some (.int .i64 a1_0) := (blk_cell BKO.out 0).trans rfl; have o1 : w4.cell? ⟨go, 1, none⟩ = some (.int .i64 a1_1) := (blk_cell BKO.out 1).trans rfl; have o2 : w4.cell? ⟨go, 2, none⟩ = some (.int .i64 a1_2) := (blk_cell BKO.out 2).trans rfl; have o3 : w4.cell? ⟨go, 3, none⟩ = some (.int .i64 a1_3) := (blk_cell BKO.out 3).trans rfl; have o4 : w4.cell? ⟨go, 4, none⟩ = some (.int .i64 a1_4) := (blk_cell BKO.out 4).trans rfl; have o5 : w4.cell? ⟨go, 5, none⟩ = some (.int .i64 a1_5) := (blk_cell BKO.out 5).trans rfl; have o6 : w4.cell? ⟨go, 6, none⟩ = some (.bool a1_6) := (blk_cell BKO.out 6).trans rfl; have o7 : w4.cell? ⟨go, 7, none⟩ = some (.int .i64 a1_7) := (blk_cell BKO.out 7).trans rfl; have o8 : w4.cell? ⟨go, 8, none⟩ = some (.int .i64 a1_8) := (blk_cell BKO.out 8).trans rfl; have o9 : w4.cell? ⟨go, 9, none⟩ = some (.int .i64 a1_9) := (blk_cell BKO.out 9).trans rfl; have rr0 : w4.cell? ⟨g4, 0, none⟩ = some (.slice none 0 0) := (blk_cell BK4.out 0).trans rfl; have rr1 : w4.cell? ⟨g4, 1, none⟩ = some (.int .i64 0) := (blk_cell BK4.out 1).trans rfl; have rf0 := blk_frozen BK4.out 0; have rf1 := blk_frozen BK4.out 1)
       | (go_at_call 57; refine (table_Check.calls A0_0 c0_0 l0_0 a0_1 true _ (Kd.C_below HR0.out HB.out) HC0.out HCK.out).mono ?_; rintro e w5 ⟨rfl, hb1⟩; have n0_ := Aside0.mk (below_step HB.out hb1); have n1_ := Aside0.mk (blk_below BKT.out hb1); have n2_ := Aside0.mk (blk_below BKO.out hb1); have n3_ := Aside0.mk (blk_below BK4.out hb1); clear hb1 HB BKT BKO BK4; clear t0 t1 o0 o1 o2 o3 o4 o5 o6 o7 o8 o9 rr0 rr1 rf0 rf1; have HB := n0_; have BKT := n1_; have BKO := n2_; have BK4 := n3_; clear n0_ n1_ n2_ n3_; have t0 : w5.cell? ⟨gt, 0, none⟩ = some (.slice A0_0 l0_0.length c0_0) := (blk_cell BKT.out 0).trans rfl; have t1 : w5.cell? ⟨gt, 1, none⟩ = some (.int .i64 a0_1) := (blk_cell BKT.out 1).trans rfl; have o0 : w5.cell? ⟨go, 0, none⟩ = some (.int .i64 a1_0) := (blk_cell BKO.out 0).trans rfl; have o1 : w5.cell? ⟨go, 1, none⟩ = some (.int .i64 a1_1) := (blk_cell BKO.out 1).trans rfl; have o2 : w5.cell? ⟨go, 2, none⟩ = some (.int .i64 a1_2) := (blk_cell BKO.out 2).trans rfl; have o3 : w5.cell? ⟨go, 3, none⟩ = some (.int .i64 a1_3) := (blk_cell BKO.out 3).trans rfl; have o4 : w5.cell? ⟨go, 4, none⟩ = some (.int .i64 a1_4) := (blk_cell BKO.out 4).trans rfl; have o5 : w5.cell? ⟨go, 5, none⟩ = some (.int .i64 a1_5) := (blk_cell BKO.out 5).trans rfl; have o6 : w5.cell? ⟨go, 6, none⟩ = some (.bool a1_6) := (blk_cell BKO.out 6).trans rfl; have o7 : w5.cell? ⟨go, 7, none⟩ = some (.int .i64 a1_7) := (blk_cell BKO.out 7).trans rfl; have o8 : w5.cell? ⟨go, 8, none⟩ = some (.int .i64 a1_8) := (blk_cell BKO.out 8).trans rfl; have o9 : w5.cell? ⟨go, 9, none⟩ = some (.int .i64 a1_9) := (blk_cell BKO.out 9).trans rfl; have rr0 : w5.cell? ⟨g4, 0, none⟩ = some (.slice none 0 0) := (blk_cell BK4.out 0).trans rfl; have rr1 : w5.cell? ⟨g4, 1, none⟩ = some (.int .i64 0) := (blk_cell BK4.out 1).trans rfl; have rf0 := blk_frozen BK4.out 0; have rf1 := blk_frozen BK4.out 1)
       | (go_at_call 58; refine (ops_Check.calls a1_0 a1_1 a1_2 a1_3 a1_4 a1_5 a1_6 a1_7 a1_8 a1_9 true _ HOK.out).mono ?_; rintro e w6 ⟨rfl, hb1⟩; have n0_ := Aside0.mk (below_step HB.out hb1); have n1_ := Aside0.mk (blk_below BKT.out hb1); have n2_ := Aside0.mk (blk_below BKO.out hb1); have n3_ := Aside0.mk (blk_below BK4.out hb1); clear hb1 HB BKT BKO BK4; clear t0 t1 o0 o1 o2 o3 o4 o5 o6 o7 o8 o9 rr0 rr1 rf0 rf1; have HB := n0_; have BKT := n1_; have BKO := n2_; have BK4 := n3_; clear n0_ n1_ n2_ n3_; have t0 : w6.cell? ⟨gt, 0, none⟩ = some (.slice A0_0 l0_0.length c0_0) := (blk_cell BKT.out 0).trans rfl; have t1 : w6.cell? ⟨gt, 1, none⟩ = some (.int .i64 a0_1) := (blk_cell BKT.out 1).trans rfl; have o0 : w6.cell? ⟨go, 0, none⟩ = some (.int .i64 a1_0) := (blk_cell BKO.out 0).trans rfl; have o1 : w6.cell? ⟨go, 1, none⟩ = some (.int .i64 a1_1) := (blk_cell BKO.out 1).trans rfl; have o2 : w6.cell? ⟨go, 2, none⟩ = some (.int .i64 a1_2) := (blk_cell BKO.out 2).trans rfl; have o3 : w6.cell? ⟨go, 3, none⟩ = some (.int .i64 a1_3) := (blk_cell BKO.out 3).trans rfl; have o4 : w6.cell? ⟨go, 4, none⟩ = some (.int .i64 a1_4) := (blk_cell BKO.out 4).trans rfl; have o5 : w6.cell? ⟨go, 5, none⟩ = some (.int .i64 a1_5) := (blk_cell BKO.out 5).trans rfl; have o6 : w6.cell? ⟨go, 6, none⟩ = some (.bool a1_6) := (blk_cell BKO.out 6).trans rfl; have o7 : w6.cell? ⟨go, 7, none⟩ = some (.int .i64 a1_7) := (blk_cell BKO.out 7).trans rfl; have o8 : w6.cell? ⟨go, 8, none⟩ = some (.int .i64 a1_8) := (blk_cell BKO.out 8).trans rfl; have o9 : w6.cell? ⟨go, 9, none⟩ = some (.int .i64 a1_9) := (blk_cell BKO.out 9).trans rfl; have rr0 : w6.cell? ⟨g4, 0, none⟩ = some (.slice none 0 0) := (blk_cell BK4.out 0).trans rfl; have rr1 : w6.cell? ⟨g4, 1, none⟩ = some (.int .i64 0) := (blk_cell BK4.out 1).trans rfl; have rf0 := blk_frozen BK4.out 0; have rf1 := blk_frozen BK4.out 1)
       | (go_at_call 59; refine (table_at.calls A0_0 c0_0 l0_0 a0_1 a1_7 _ _ _ (Kd.C_below HR0.out HB.out) HC0.out HAT.out).mono ?_; rintro e w7 ⟨rfl, hb1⟩; have n0_ := Aside0.mk (below_step HB.out hb1); have n1_ := Aside0.mk (blk_below BKT.out hb1); have n2_ := Aside0.mk (blk_below BKO.out hb1); have n3_ := Aside0.mk (blk_below BK4.out hb1); clear hb1 HB BKT BKO BK4; clear t0 t1 o0 o1 o2 o3 o4 o5 o6 o7 o8 o9 rr0 rr1 rf0 rf1; have HB := n0_; have BKT := n1_; have BKO := n2_; have BK4 := n3_; clear n0_ n1_ n2_ n3_; have t0 : w7.cell? ⟨gt, 0, none⟩ = some (.slice A0_0 l0_0.length c0_0) := (blk_cell BKT.out 0).trans rfl; have t1 : w7.cell? ⟨gt, 1, none⟩ = some (.int .i64 a0_1) := (blk_cell BKT.out 1).trans rfl; have o0 : w7.cell? ⟨go, 0, none⟩ = some (.int .i64 a1_0) := (blk_cell BKO.out 0).trans rfl; have o1 : w7.cell? ⟨go, 1, none⟩ = some (.int .i64 a1_1) := (blk_cell BKO.out 1).trans rfl; have o2 : w7.cell? ⟨go, 2, none⟩ = some (.int .i64 a1_2) := (blk_cell BKO.out 2).trans rfl; have o3 : w7.cell? ⟨go, 3, none⟩ = some (.int .i64 a1_3) := (blk_cell BKO.out 3).trans rfl; have o4 : w7.cell? ⟨go, 4, none⟩ = some (.int .i64 a1_4) := (blk_cell BKO.out 4).trans rfl; have o5 : w7.cell? ⟨go, 5, none⟩ = some (.int .i64 a1_5) := (blk_cell BKO.out 5).trans rfl; have o6 : w7.cell? ⟨go, 6, none⟩ = some (.bool a1_6) := (blk_cell BKO.out 6).trans rfl; have o7 : w7.cell? ⟨go, 7, none⟩ = some (.int .i64 a1_7) := (blk_cell BKO.out 7).trans rfl; have o8 : w7.cell? ⟨go, 8, none⟩ = some (.int .i64 a1_8) := (blk_cell BKO.out 8).trans rfl; have o9 : w7.cell? ⟨go, 9, none⟩ = some (.int .i64 a1_9) := (blk_cell BKO.out 9).trans rfl; have rr0 : w7.cell? ⟨g4, 0, none⟩ = some (.slice none 0 0) := (blk_cell BK4.out 0).trans rfl; have rr1 : w7.cell? ⟨g4, 1, none⟩ = some (.int .i64 0) := (blk_cell BK4.out 1).trans rfl; have rf0 := blk_frozen BK4.out 0; have rf1 := blk_frozen BK4.out 1))
      refine bodyPost_ret (results_ct rfl _ _ g4 46 #[.slice none 0 0, .int .i64 0] (0, 0) _ rfl (by first | exact BK4.out | (refine blk_put (cs := #[.slice none 0 0, .int .i64 0]) ?_ 1 _ rfl; refine blk_put (cs := #[.slice none 0 0, .int .i64 0]) ?_ 0 _ rfl; exact BK4.out)) Try.underlying46 rfl (by kernel_rfl)) rfl ?_
      exact ⟨_, rfl, Kd.R_nil _ _ _ _ _, by first | exact HB.out | exact below_set (below_set HB.out G4.out) G4.out⟩
     | true =>
      rw [hat] at h2 HAT
      rw [if_pos rfl] at h2
      have hlt : bsAt l0_0 a1_7 < l0_0.length := by unfold atB at hat; simp at hat; exact hat.1
      have HX := Aside0.mk (show rd_T60 l0_0 (bsAt l0_0 a1_7 : Int) = atR l0_0 a1_7 from rfl)
      obtain ⟨x, hx⟩ : ∃ x, atR l0_0 a1_7 = x := ⟨_, rfl⟩
      rw [hx] at HX h2
      clear hx
      obtain ⟨p, hp⟩ : ∃ p, bsAt l0_0 a1_7 = p := ⟨_, rfl⟩
      rw [hp] at HX h2 HAT HLE hlt
      clear hp hat
      have p0 : (0 : Int) ≤ (p : Int) := by omega
      have q0 : (p : Int) < (l0_0.length : Int) := by omega
      have HLT := Aside0.mk hlt
      have hpw : wrap64 ((p : Int) + 1) = (p : Int) + 1 := by unfold wrap64; have := HM.out; omega
      by_cases e2 : a1_0 = 2
      ·rw [if_pos e2] at h2
       obtain ⟨rfl, rfl, rfl⟩ : l0_0.take p ++ [] ++ l0_0.drop (p + 1) = r1 ∧ a0_1 = r2 ∧ (0 : Int) = r3 := by simpa using h2
       have k1 : (a1_0 == 1) = false := beq_eq_false_iff_ne.mpr e1
       have k4 : (a1_0 == 4) = false := beq_eq_false_iff_ne.mpr e4
       have k2 : (a1_0 == 2) = true := beq_iff_eq.mpr e2
       clear h2 e1 e4 e2
       obtain ⟨Y, hY⟩ : ∃ Y, l0_0.take p ++ [] ++ l0_0.drop (p + 1) = Y := ⟨_, rfl⟩
       rw [hY]
       have HY := Aside0.mk hY
       clear hY
       go_enter Try.func37, Try.ntmps37
       go_wp2_with (first
        | ((with_reducible refine gate_dst (N := 2) rfl ?_); refine box_event ?hg (N := 2) ?hd (cs := #[.slice A0_0 l0_0.length c0_0, .int .i64 a0_1]) (t := 46) ?hr ?_; (case hd => rfl); (case hg => rfl); (case hr => first | (go_simp; done) | (go_simp; rfl)); intro gt hg w2 hbox hb; have n0_ := Aside0.mk (below_step HB.out hb); have BKT := Aside0.mk hbox; have GTT := Aside0.mk (show w.heap.size ≤ gt by rw [hg]; exact Nat.le_refl _); clear HB; have HB := n0_; clear n0_; clear hb hbox hg)
        | ((with_reducible refine gate_dst (N := 3) rfl ?_); refine box_event ?hg (N := 3) ?hd (cs := #[.int .i64 a1_0, .int .i64 a1_1, .int .i64 a1_2, .int .i64 a1_3, .int .i64 a1_4, .int .i64 a1_5, .bool a1_6, .int .i64 a1_7, .int .i64 a1_8, .int .i64 a1_9]) (t := 50) ?hr ?_; (case hd => rfl); (case hg => rfl); (case hr => first | (go_simp; done) | (go_simp; rfl)); intro go hg w3 hbox hb; have n0_ := Aside0.mk (below_step HB.out hb); have n1_ := Aside0.mk (blk_below BKT.out hb); have BKO := Aside0.mk hbox; clear HB BKT; have HB := n0_; have BKT := n1_; clear n0_ n1_; clear hb hbox hg)
        | ((with_reducible refine gate_dst (N := 4) rfl ?_); refine box_event ?hg (N := 4) ?hd (cs := #[.slice none 0 0, .int .i64 0]) (t := 46) ?hr ?_; (case hd => rfl); (case hg => rfl); (case hr => first | (go_simp; done) | (go_simp; rfl)); intro g4 hg w4 hbox hb; have n0_ := Aside0.mk (below_step HB.out hb); have n1_ := Aside0.mk (blk_below BKT.out hb); have n2_ := Aside0.mk (blk_below BKO.out hb); have BK4 := Aside0.mk hbox; have G4 := Aside0.mk (show w.heap.size ≤ g4 by rw [hg]; exact below_size HB.out); have N4 := Aside0.mk (show gt ≠ g4 by rw [hg]; exact Nat.ne_of_lt (blk_lt BKT.out)); have N5 := Aside0.mk (show go ≠ g4 by rw [hg]; exact Nat.ne_of_lt (blk_lt BKO.out)); clear HB BKT BKO; have HB := n0_; have BKT := n1_; have BKO := n2_; clear n0_ n1_ n2_; clear hb hbox hg; have t0 : w4.cell? ⟨gt, 0, none⟩ = some (.slice A0_0 l0_0.length c0_0) := (blk_cell BKT.out 0).trans rfl; have t1 : w4.cell? ⟨gt, 1, none⟩ = some (.int .i64 a0_1) := (blk_cell BKT.out 1).trans rfl; have o0 : w4.cell? ⟨go, 0, none⟩ = some (.int .i64 a1_0) := (blk_cell BKO.out 0).trans rfl; have o1 : w4.cell? ⟨go, 1, none⟩ = some (.int .i64 a1_1) := (blk_cell BKO.out 1).trans rfl; have o2 : w4.cell? ⟨go, 2, none⟩ = some (.int .i64 a1_2) := (blk_cell BKO.out 2).trans rfl; have o3 : w4.cell? ⟨go, 3, none⟩ = some (.int .i64 a1_3) := (blk_cell BKO.out 3).trans rfl; have o4 : w4.cell? ⟨go, 4, none⟩ = some (.int .i64 a1_4) := (blk_cell BKO.out 4).trans rfl; have o5 : w4.cell? ⟨go, 5, none⟩ = some (.int .i64 a1_5) := (blk_cell BKO.out 5).trans rfl; have o6 : w4.cell? ⟨go, 6, none⟩ = some (.bool a1_6) := (blk_cell BKO.out 6).trans rfl; have o7 : w4.cell? ⟨go, 7, none⟩ = some (.int .i64 a1_7) := (blk_cell BKO.out 7).trans rfl; have o8 : w4.cell? ⟨go, 8, none⟩ = some (.int .i64 a1_8) := (blk_cell BKO.out 8).trans rfl; have o9 : w4.cell? ⟨go, 9, none⟩ = some (.int .i64 a1_9) := (blk_cell BKO.out 9).trans rfl; have rr0 : w4.cell? ⟨g4, 0, none⟩ = some (.slice none 0 0) := (blk_cell BK4.out 0).trans rfl; have rr1 : w4.cell? ⟨g4, 1, none⟩ = some (.int .i64 0) := (blk_cell BK4.out 1).trans rfl; have rf0 := blk_frozen BK4.out 0; have rf1 := blk_frozen BK4.out 1)
        | (go_at_call 57; refine (table_Check.calls A0_0 c0_0 l0_0 a0_1 true _ (Kd.C_below HR0.out HB.out) HC0.out HCK.out).mono ?_; rintro e w5 ⟨rfl, hb1⟩; have n0_ := Aside0.mk (below_step HB.out hb1); have n1_ := Aside0.mk (blk_below BKT.out hb1); have n2_ := Aside0.mk (blk_below BKO.out hb1); have n3_ := Aside0.mk (blk_below BK4.out hb1); clear hb1 HB BKT BKO BK4; clear t0 t1 o0 o1 o2 o3 o4 o5 o6 o7 o8 o9 rr0 rr1 rf0 rf1; have HB := n0_; have BKT := n1_; have BKO := n2_; have BK4 := n3_; clear n0_ n1_ n2_ n3_; have t0 : w5.cell? ⟨gt, 0, none⟩ = some (.slice A0_0 l0_0.length c0_0) := (blk_cell BKT.out 0).trans rfl; have t1 : w5.cell? ⟨gt, 1, none⟩ = some (.int .i64 a0_1) := (blk_cell BKT.out 1).trans rfl; have o0 : w5.cell? ⟨go, 0, none⟩ = some (.int .i64 a1_0) := (blk_cell BKO.out 0).trans rfl; have o1 : w5.cell? ⟨go, 1, none⟩ = some (.int .i64 a1_1) := (blk_cell BKO.out 1).trans rfl; have o2 : w5.cell? ⟨go, 2, none⟩ = some (.int .i64 a1_2) := (blk_cell BKO.out 2).trans rfl; have o3 : w5.cell? ⟨go, 3, none⟩ = some (.int .i64 a1_3) := (blk_cell BKO.out 3).trans rfl; have o4 : w5.cell? ⟨go, 4, none⟩ = some (.int .i64 a1_4) := (blk_cell BKO.out 4).trans rfl; have o5 : w5.cell? ⟨go, 5, none⟩ = some (.int .i64 a1_5) := (blk_cell BKO.out 5).trans rfl; have o6 : w5.cell? ⟨go, 6, none⟩ = some (.bool a1_6) := (blk_cell BKO.out 6).trans rfl; have o7 : w5.cell? ⟨go, 7, none⟩ = some (.int .i64 a1_7) := (blk_cell BKO.out 7).trans rfl; have o8 : w5.cell? ⟨go, 8, none⟩ = some (.int .i64 a1_8) := (blk_cell BKO.out 8).trans rfl; have o9 : w5.cell? ⟨go, 9, none⟩ = some (.int .i64 a1_9) := (blk_cell BKO.out 9).trans rfl; have rr0 : w5.cell? ⟨g4, 0, none⟩ = some (.slice none 0 0) := (blk_cell BK4.out 0).trans rfl; have rr1 : w5.cell? ⟨g4, 1, none⟩ = some (.int .i64 0) := (blk_cell BK4.out 1).trans rfl; have rf0 := blk_frozen BK4.out 0; have rf1 := blk_frozen BK4.out 1)
        | (go_at_call 58; refine (ops_Check.calls a1_0 a1_1 a1_2 a1_3 a1_4 a1_5 a1_6 a1_7 a1_8 a1_9 true _ HOK.out).mono ?_; rintro e w6 ⟨rfl, hb1⟩; have n0_ := Aside0.mk (below_step HB.out hb1); have n1_ := Aside0.mk (blk_below BKT.out hb1); have n2_ := Aside0.mk (blk_below BKO.out hb1); have n3_ := Aside0.mk (blk_below BK4.out hb1); clear hb1 HB BKT BKO BK4; clear t0 t1 o0 o1 o2 o3 o4 o5 o6 o7 o8 o9 rr0 rr1 rf0 rf1; have HB := n0_; have BKT := n1_; have BKO := n2_; have BK4 := n3_; clear n0_ n1_ n2_ n3_; have t0 : w6.cell? ⟨gt, 0, none⟩ = some (.slice A0_0 l0_0.length c0_0) := (blk_cell BKT.out 0).trans rfl; have t1 : w6.cell? ⟨gt, 1, none⟩ = some (.int .i64 a0_1) := (blk_cell BKT.out 1).trans rfl; have o0 : w6.cell? ⟨go, 0, none⟩ = some (.int .i64 a1_0) := (blk_cell BKO.out 0).trans rfl; have o1 : w6.cell? ⟨go, 1, none⟩ = some (.int .i64 a1_1) := (blk_cell BKO.out 1).trans rfl; have o2 : w6.cell? ⟨go, 2, none⟩ = some (.int .i64 a1_2) := (blk_cell BKO.out 2).trans rfl; have o3 : w6.cell? ⟨go, 3, none⟩ = some (.int .i64 a1_3) := (blk_cell BKO.out 3).trans rfl; have o4 : w6.cell? ⟨go, 4, none⟩ = some (.int .i64 a1_4) := (blk_cell BKO.out 4).trans rfl; have o5 : w6.cell? ⟨go, 5, none⟩ = some (.int .i64 a1_5) := (blk_cell BKO.out 5).trans rfl; have o6 : w6.cell? ⟨go, 6, none⟩ = some (.bool a1_6) := (blk_cell BKO.out 6).trans rfl; have o7 : w6.cell? ⟨go, 7, none⟩ = some (.int .i64 a1_7) := (blk_cell BKO.out 7).trans rfl; have o8 : w6.cell? ⟨go, 8, none⟩ = some (.int .i64 a1_8) := (blk_cell BKO.out 8).trans rfl; have o9 : w6.cell? ⟨go, 9, none⟩ = some (.int .i64 a1_9) := (blk_cell BKO.out 9).trans rfl; have rr0 : w6.cell? ⟨g4, 0, none⟩ = some (.slice none 0 0) := (blk_cell BK4.out 0).trans rfl; have rr1 : w6.cell? ⟨g4, 1, none⟩ = some (.int .i64 0) := (blk_cell BK4.out 1).trans rfl; have rf0 := blk_frozen BK4.out 0; have rf1 := blk_frozen BK4.out 1)
        | (go_at_call 59; refine (table_at.calls A0_0 c0_0 l0_0 a0_1 a1_7 _ _ _ (Kd.C_below HR0.out HB.out) HC0.out HAT.out).mono ?_; rintro e w7 ⟨rfl, hb1⟩; have n0_ := Aside0.mk (below_step HB.out hb1); have n1_ := Aside0.mk (blk_below BKT.out hb1); have n2_ := Aside0.mk (blk_below BKO.out hb1); have n3_ := Aside0.mk (blk_below BK4.out hb1); clear hb1 HB BKT BKO BK4; clear t0 t1 o0 o1 o2 o3 o4 o5 o6 o7 o8 o9 rr0 rr1 rf0 rf1; have HB := n0_; have BKT := n1_; have BKO := n2_; have BK4 := n3_; clear n0_ n1_ n2_ n3_; have t0 : w7.cell? ⟨gt, 0, none⟩ = some (.slice A0_0 l0_0.length c0_0) := (blk_cell BKT.out 0).trans rfl; have t1 : w7.cell? ⟨gt, 1, none⟩ = some (.int .i64 a0_1) := (blk_cell BKT.out 1).trans rfl; have o0 : w7.cell? ⟨go, 0, none⟩ = some (.int .i64 a1_0) := (blk_cell BKO.out 0).trans rfl; have o1 : w7.cell? ⟨go, 1, none⟩ = some (.int .i64 a1_1) := (blk_cell BKO.out 1).trans rfl; have o2 : w7.cell? ⟨go, 2, none⟩ = some (.int .i64 a1_2) := (blk_cell BKO.out 2).trans rfl; have o3 : w7.cell? ⟨go, 3, none⟩ = some (.int .i64 a1_3) := (blk_cell BKO.out 3).trans rfl; have o4 : w7.cell? ⟨go, 4, none⟩ = some (.int .i64 a1_4) := (blk_cell BKO.out 4).trans rfl; have o5 : w7.cell? ⟨go, 5, none⟩ = some (.int .i64 a1_5) := (blk_cell BKO.out 5).trans rfl; have o6 : w7.cell? ⟨go, 6, none⟩ = some (.bool a1_6) := (blk_cell BKO.out 6).trans rfl; have o7 : w7.cell? ⟨go, 7, none⟩ = some (.int .i64 a1_7) := (blk_cell BKO.out 7).trans rfl; have o8 : w7.cell? ⟨go, 8, none⟩ = some (.int .i64 a1_8) := (blk_cell BKO.out 8).trans rfl; have o9 : w7.cell? ⟨go, 9, none⟩ = some (.int .i64 a1_9) := (blk_cell BKO.out 9).trans rfl; have rr0 : w7.cell? ⟨g4, 0, none⟩ = some (.slice none 0 0) := (blk_cell BK4.out 0).trans rfl; have rr1 : w7.cell? ⟨g4, 1, none⟩ = some (.int .i64 0) := (blk_cell BK4.out 1).trans rfl; have rf0 := blk_frozen BK4.out 0; have rf1 := blk_frozen BK4.out 1)
        | (go_at_call 62; (try rw [show ((p : Int) + 1) = ((p + 1 : Nat) : Int) from rfl]); refine (table_with.calls A0_0 c0_0 l0_0 a0_1 p (p + 1) none 0 [] _ (Kd.C_below HR0.out HB.out) HC0.out (Kd.C_nil _ _) (by simp) (Nat.le_of_lt HLT.out) HLT.out (by have := HM.out; omega) (by simp)).mono ?_; rintro e w8 ⟨v8, rfl, hr, hb1⟩; rw [HY.out] at hr; obtain ⟨A8, c8, rfl⟩ := Kd.R_slice hr; have HR6 := Aside0.mk (Kd.R_lower hr (below_size HB.out)); clear hr; have n0_ := Aside0.mk (below_step HB.out hb1); have n1_ := Aside0.mk (blk_below BKT.out hb1); have n2_ := Aside0.mk (blk_below BKO.out hb1); have n3_ := Aside0.mk (blk_below BK4.out hb1); clear hb1 HB BKT BKO BK4; clear t0 t1 o0 o1 o2 o3 o4 o5 o6 o7 o8 o9 rr0 rr1 rf0 rf1; have HB := n0_; have BKT := n1_; have BKO := n2_; have BK4 := n3_; clear n0_ n1_ n2_ n3_; have t0 : w8.cell? ⟨gt, 0, none⟩ = some (.slice A0_0 l0_0.length c0_0) := (blk_cell BKT.out 0).trans rfl; have t1 : w8.cell? ⟨gt, 1, none⟩ = some (.int .i64 a0_1) := (blk_cell BKT.out 1).trans rfl; have o0 : w8.cell? ⟨go, 0, none⟩ = some (.int .i64 a1_0) := (blk_cell BKO.out 0).trans rfl; have o1 : w8.cell? ⟨go, 1, none⟩ = some (.int .i64 a1_1) := (blk_cell BKO.out 1).trans rfl; have o2 : w8.cell? ⟨go, 2, none⟩ = some (.int .i64 a1_2) := (blk_cell BKO.out 2).trans rfl; have o3 : w8.cell? ⟨go, 3, none⟩ = some (.int .i64 a1_3) := (blk_cell BKO.out 3).trans rfl; have o4 : w8.cell? ⟨go, 4, none⟩ = some (.int .i64 a1_4) := (blk_cell BKO.out 4).trans rfl; have o5 : w8.cell? ⟨go, 5, none⟩ = some (.int .i64 a1_5) := (blk_cell BKO.out 5).trans rfl; have o6 : w8.cell? ⟨go, 6, none⟩ = some (.bool a1_6) := (blk_cell BKO.out 6).trans rfl; have o7 : w8.cell? ⟨go, 7, none⟩ = some (.int .i64 a1_7) := (blk_cell BKO.out 7).trans rfl; have o8 : w8.cell? ⟨go, 8, none⟩ = some (.int .i64 a1_8) := (blk_cell BKO.out 8).trans rfl; have o9 : w8.cell? ⟨go, 9, none⟩ = some (.int .i64 a1_9) := (blk_cell BKO.out 9).trans rfl; have rr0 : w8.cell? ⟨g4, 0, none⟩ = some (.slice none 0 0) := (blk_cell BK4.out 0).trans rfl; have rr1 : w8.cell? ⟨g4, 1, none⟩ = some (.int .i64 0) := (blk_cell BK4.out 1).trans rfl; have rf0 := blk_frozen BK4.out 0; have rf1 := blk_frozen BK4.out 1))
       refine bodyPost_ret (results_ct rfl _ _ g4 46 #[.slice A8 Y.length c8, .int .i64 a0_1] (0, 0) _ rfl (by refine blk_put (cs := #[.slice A8 Y.length c8, .int .i64 0]) ?_ 1 _ rfl; refine blk_put (cs := #[.slice none 0 0, .int .i64 0]) ?_ 0 _ rfl; exact BK4.out) Try.underlying46 rfl (by kernel_rfl)) rfl ?_
       exact ⟨_, rfl, Kd.R_set (Kd.R_set HR6.out BK4.out (by decide) 0 _) (blk_set BK4.out 0 _) (by decide) 1 _, by first | exact HB.out | exact below_set (below_set HB.out G4.out) G4.out⟩
      ·rw [if_neg e2] at h2
       have k1 : (a1_0 == 1) = false := beq_eq_false_iff_ne.mpr e1
       have k4 : (a1_0 == 4) = false := beq_eq_false_iff_ne.mpr e4
       have k2 : (a1_0 == 2) = false := beq_eq_false_iff_ne.mpr e2
       clear e1 e4 e2
       by_cases hcd : a1_8 > x.f0.f2
       ·rw [if_pos hcd] at h2
        obtain ⟨rfl, rfl, rfl⟩ : [] = r1 ∧ (0 : Int) = r2 ∧ (1 : Int) = r3 := by simpa using h2
        clear h2
        go_enter Try.func37, Try.ntmps37
        go_upto_region 12 with (first
         | ((with_reducible refine gate_dst (N := 2) rfl ?_); refine box_event ?hg (N := 2) ?hd (cs := #[.slice A0_0 l0_0.length c0_0, .int .i64 a0_1]) (t := 46) ?hr ?_; (case hd => rfl); (case hg => rfl); (case hr => first | (go_simp; done) | (go_simp; rfl)); intro gt hg w2 hbox hb; have n0_ := Aside0.mk (below_step HB.out hb); have BKT := Aside0.mk hbox; have GTT := Aside0.mk (show w.heap.size ≤ gt by rw [hg]; exact Nat.le_refl _); clear HB; have HB := n0_; clear n0_; clear hb hbox hg)
         | ((with_reducible refine gate_dst (N := 3) rfl ?_); refine box_event ?hg (N := 3) ?hd (cs := #[.int .i64 a1_0, .int .i64 a1_1, .int .i64 a1_2, .int .i64 a1_3, .int .i64 a1_4, .int .i64 a1_5, .bool a1_6, .int .i64 a1_7, .int .i64 a1_8, .int .i64 a1_9]) (t := 50) ?hr ?_; (case hd => rfl); (case hg => rfl); (case hr => first | (go_simp; done) | (go_simp; rfl)); intro go hg w3 hbox hb; have n0_ := Aside0.mk (below_step HB.out hb); have n1_ := Aside0.mk (blk_below BKT.out hb); have BKO := Aside0.mk hbox; clear HB BKT; have HB := n0_; have BKT := n1_; clear n0_ n1_; clear hb hbox hg)
         | ((with_reducible refine gate_dst (N := 4) rfl ?_); refine box_event ?hg (N := 4) ?hd (cs := #[.slice none 0 0, .int .i64 0]) (t := 46) ?hr ?_; (case hd => rfl); (case hg => rfl); (case hr => first | (go_simp; done) | (go_simp; rfl)); intro g4 hg w4 hbox hb; have n0_ := Aside0.mk (below_step HB.out hb); have n1_ := Aside0.mk (blk_below BKT.out hb); have n2_ := Aside0.mk (blk_below BKO.out hb); have BK4 := Aside0.mk hbox; have G4 := Aside0.mk (show w.heap.size ≤ g4 by rw [hg]; exact below_size HB.out); have N4 := Aside0.mk (show gt ≠ g4 by rw [hg]; exact Nat.ne_of_lt (blk_lt BKT.out)); have N5 := Aside0.mk (show go ≠ g4 by rw [hg]; exact Nat.ne_of_lt (blk_lt BKO.out)); clear HB BKT BKO; have HB := n0_; have BKT := n1_; have BKO := n2_; clear n0_ n1_ n2_; clear hb hbox hg; have t0 : w4.cell? ⟨gt, 0, none⟩ = some (.slice A0_0 l0_0.length c0_0) := (blk_cell BKT.out 0).trans rfl; have t1 : w4.cell? ⟨gt, 1, none⟩ = some (.int .i64 a0_1) := (blk_cell BKT.out 1).trans rfl; have o0 : w4.cell? ⟨go, 0, none⟩ = some (.int .i64 a1_0) := (blk_cell BKO.out 0).trans rfl; have o1 : w4.cell? ⟨go, 1, none⟩ = some (.int .i64 a1_1) := (blk_cell BKO.out 1).trans rfl; have o2 : w4.cell? ⟨go, 2, none⟩ = some (.int .i64 a1_2) := (blk_cell BKO.out 2).trans rfl; have o3 : w4.cell? ⟨go, 3, none⟩ = some (.int .i64 a1_3) := (blk_cell BKO.out 3).trans rfl; have o4 : w4.cell? ⟨go, 4, none⟩ = some (.int .i64 a1_4) := (blk_cell BKO.out 4).trans rfl; have o5 : w4.cell? ⟨go, 5, none⟩ = some (.int .i64 a1_5) := (blk_cell BKO.out 5).trans rfl; have o6 : w4.cell? ⟨go, 6, none⟩ = some (.bool a1_6) := (blk_cell BKO.out 6).trans rfl; have o7 : w4.cell? ⟨go, 7, none⟩ = some (.int .i64 a1_7) := (blk_cell BKO.out 7).trans rfl; have o8 : w4.cell? ⟨go, 8, none⟩ = some (.int .i64 a1_8) := (blk_cell BKO.out 8).trans rfl; have o9 : w4.cell? ⟨go, 9, none⟩ = some (.int .i64 a1_9) := (blk_cell BKO.out 9).trans rfl; have rr0 : w4.cell? ⟨g4, 0, none⟩ = some (.slice none 0 0) := (blk_cell BK4.out 0).trans rfl; have rr1 : w4.cell? ⟨g4, 1, none⟩ = some (.int .i64 0) := (blk_cell BK4.out 1).trans rfl; have rf0 := blk_frozen BK4.out 0; have rf1 := blk_frozen BK4.out 1)
         | (go_at_call 57; refine (table_Check.calls A0_0 c0_0 l0_0 a0_1 true _ (Kd.C_below HR0.out HB.out) HC0.out HCK.out).mono ?_; rintro e w5 ⟨rfl, hb1⟩; have n0_ := Aside0.mk (below_step HB.out hb1); have n1_ := Aside0.mk (blk_below BKT.out hb1); have n2_ := Aside0.mk (blk_below BKO.out hb1); have n3_ := Aside0.mk (blk_below BK4.out hb1); clear hb1 HB BKT BKO BK4; clear t0 t1 o0 o1 o2 o3 o4 o5 o6 o7 o8 o9 rr0 rr1 rf0 rf1; have HB := n0_; have BKT := n1_; have BKO := n2_; have BK4 := n3_; clear n0_ n1_ n2_ n3_; have t0 : w5.cell? ⟨gt, 0, none⟩ = some (.slice A0_0 l0_0.length c0_0) := (blk_cell BKT.out 0).trans rfl; have t1 : w5.cell? ⟨gt, 1, none⟩ = some (.int .i64 a0_1) := (blk_cell BKT.out 1).trans rfl; have o0 : w5.cell? ⟨go, 0, none⟩ = some (.int .i64 a1_0) := (blk_cell BKO.out 0).trans rfl; have o1 : w5.cell? ⟨go, 1, none⟩ = some (.int .i64 a1_1) := (blk_cell BKO.out 1).trans rfl; have o2 : w5.cell? ⟨go, 2, none⟩ = some (.int .i64 a1_2) := (blk_cell BKO.out 2).trans rfl; have o3 : w5.cell? ⟨go, 3, none⟩ = some (.int .i64 a1_3) := (blk_cell BKO.out 3).trans rfl; have o4 : w5.cell? ⟨go, 4, none⟩ = some (.int .i64 a1_4) := (blk_cell BKO.out 4).trans rfl; have o5 : w5.cell? ⟨go, 5, none⟩ = some (.int .i64 a1_5) := (blk_cell BKO.out 5).trans rfl; have o6 : w5.cell? ⟨go, 6, none⟩ = some (.bool a1_6) := (blk_cell BKO.out 6).trans rfl; have o7 : w5.cell? ⟨go, 7, none⟩ = some (.int .i64 a1_7) := (blk_cell BKO.out 7).trans rfl; have o8 : w5.cell? ⟨go, 8, none⟩ = some (.int .i64 a1_8) := (blk_cell BKO.out 8).trans rfl; have o9 : w5.cell? ⟨go, 9, none⟩ = some (.int .i64 a1_9) := (blk_cell BKO.out 9).trans rfl; have rr0 : w5.cell? ⟨g4, 0, none⟩ = some (.slice none 0 0) := (blk_cell BK4.out 0).trans rfl; have rr1 : w5.cell? ⟨g4, 1, none⟩ = some (.int .i64 0) := (blk_cell BK4.out 1).trans rfl; have rf0 := blk_frozen BK4.out 0; have rf1 := blk_frozen BK4.out 1)
         | (go_at_call 58; refine (ops_Check.calls a1_0 a1_1 a1_2 a1_3 a1_4 a1_5 a1_6 a1_7 a1_8 a1_9 true _ HOK.out).mono ?_; rintro e w6 ⟨rfl, hb1⟩; have n0_ := Aside0.mk (below_step HB.out hb1); have n1_ := Aside0.mk (blk_below BKT.out hb1); have n2_ := Aside0.mk (blk_below BKO.out hb1); have n3_ := Aside0.mk (blk_below BK4.out hb1); clear hb1 HB BKT BKO BK4; clear t0 t1 o0 o1 o2 o3 o4 o5 o6 o7 o8 o9 rr0 rr1 rf0 rf1; have HB := n0_; have BKT := n1_; have BKO := n2_; have BK4 := n3_; clear n0_ n1_ n2_ n3_; have t0 : w6.cell? ⟨gt, 0, none⟩ = some (.slice A0_0 l0_0.length c0_0) := (blk_cell BKT.out 0).trans rfl; have t1 : w6.cell? ⟨gt, 1, none⟩ = some (.int .i64 a0_1) := (blk_cell BKT.out 1).trans rfl; have o0 : w6.cell? ⟨go, 0, none⟩ = some (.int .i64 a1_0) := (blk_cell BKO.out 0).trans rfl; have o1 : w6.cell? ⟨go, 1, none⟩ = some (.int .i64 a1_1) := (blk_cell BKO.out 1).trans rfl; have o2 : w6.cell? ⟨go, 2, none⟩ = some (.int .i64 a1_2) := (blk_cell BKO.out 2).trans rfl; have o3 : w6.cell? ⟨go, 3, none⟩ = some (.int .i64 a1_3) := (blk_cell BKO.out 3).trans rfl; have o4 : w6.cell? ⟨go, 4, none⟩ = some (.int .i64 a1_4) := (blk_cell BKO.out 4).trans rfl; have o5 : w6.cell? ⟨go, 5, none⟩ = some (.int .i64 a1_5) := (blk_cell BKO.out 5).trans rfl; have o6 : w6.cell? ⟨go, 6, none⟩ = some (.bool a1_6) := (blk_cell BKO.out 6).trans rfl; have o7 : w6.cell? ⟨go, 7, none⟩ = some (.int .i64 a1_7) := (blk_cell BKO.out 7).trans rfl; have o8 : w6.cell? ⟨go, 8, none⟩ = some (.int .i64 a1_8) := (blk_cell BKO.out 8).trans rfl; have o9 : w6.cell? ⟨go, 9, none⟩ = some (.int .i64 a1_9) := (blk_cell BKO.out 9).trans rfl; have rr0 : w6.cell? ⟨g4, 0, none⟩ = some (.slice none 0 0) := (blk_cell BK4.out 0).trans rfl; have rr1 : w6.cell? ⟨g4, 1, none⟩ = some (.int .i64 0) := (blk_cell BK4.out 1).trans rfl; have rf0 := blk_frozen BK4.out 0; have rf1 := blk_frozen BK4.out 1)
         | (go_at_call 59; refine (table_at.calls A0_0 c0_0 l0_0 a0_1 a1_7 _ _ _ (Kd.C_below HR0.out HB.out) HC0.out HAT.out).mono ?_; rintro e w7 ⟨rfl, hb1⟩; have n0_ := Aside0.mk (below_step HB.out hb1); have n1_ := Aside0.mk (blk_below BKT.out hb1); have n2_ := Aside0.mk (blk_below BKO.out hb1); have n3_ := Aside0.mk (blk_below BK4.out hb1); clear hb1 HB BKT BKO BK4; clear t0 t1 o0 o1 o2 o3 o4 o5 o6 o7 o8 o9 rr0 rr1 rf0 rf1; have HB := n0_; have BKT := n1_; have BKO := n2_; have BK4 := n3_; clear n0_ n1_ n2_ n3_; have t0 : w7.cell? ⟨gt, 0, none⟩ = some (.slice A0_0 l0_0.length c0_0) := (blk_cell BKT.out 0).trans rfl; have t1 : w7.cell? ⟨gt, 1, none⟩ = some (.int .i64 a0_1) := (blk_cell BKT.out 1).trans rfl; have o0 : w7.cell? ⟨go, 0, none⟩ = some (.int .i64 a1_0) := (blk_cell BKO.out 0).trans rfl; have o1 : w7.cell? ⟨go, 1, none⟩ = some (.int .i64 a1_1) := (blk_cell BKO.out 1).trans rfl; have o2 : w7.cell? ⟨go, 2, none⟩ = some (.int .i64 a1_2) := (blk_cell BKO.out 2).trans rfl; have o3 : w7.cell? ⟨go, 3, none⟩ = some (.int .i64 a1_3) := (blk_cell BKO.out 3).trans rfl; have o4 : w7.cell? ⟨go, 4, none⟩ = some (.int .i64 a1_4) := (blk_cell BKO.out 4).trans rfl; have o5 : w7.cell? ⟨go, 5, none⟩ = some (.int .i64 a1_5) := (blk_cell BKO.out 5).trans rfl; have o6 : w7.cell? ⟨go, 6, none⟩ = some (.bool a1_6) := (blk_cell BKO.out 6).trans rfl; have o7 : w7.cell? ⟨go, 7, none⟩ = some (.int .i64 a1_7) := (blk_cell BKO.out 7).trans rfl; have o8 : w7.cell? ⟨go, 8, none⟩ = some (.int .i64 a1_8) := (blk_cell BKO.out 8).trans rfl; have o9 : w7.cell? ⟨go, 9, none⟩ = some (.int .i64 a1_9) := (blk_cell BKO.out 9).trans rfl; have rr0 : w7.cell? ⟨g4, 0, none⟩ = some (.slice none 0 0) := (blk_cell BK4.out 0).trans rfl; have rr1 : w7.cell? ⟨g4, 1, none⟩ = some (.int .i64 0) := (blk_cell BK4.out 1).trans rfl; have rf0 := blk_frozen BK4.out 0; have rf1 := blk_frozen BK4.out 1))
        obtain ⟨ad, e0, x0, x1, x2, x3, x4, x5⟩ := at_T60 HR0.out p p0 q0
        cases e0
        rw [HX.out] at x0 x1 x2 x3 x4 x5
        simp only [Int.toNat_natCast] at x0 x1 x2 x3 x4 x5
        replace x0 := (HB.out.cell (World.block_lt_of_cell? w _ x0)).trans x0
        replace x1 := (HB.out.cell (World.block_lt_of_cell? w _ x1)).trans x1
        replace x2 := (HB.out.cell (World.block_lt_of_cell? w _ x2)).trans x2
        replace x3 := (HB.out.cell (World.block_lt_of_cell? w _ x3)).trans x3
        replace x4 := (HB.out.cell (World.block_lt_of_cell? w _ x4)).trans x4
        replace x5 := (HB.out.cell (World.block_lt_of_cell? w _ x5)).trans x5
        go_quiet (fail)
        have n0_ := Aside0.mk (pw_below_drewN HB.out nq)
        have n1_ := Aside0.mk (blk_drewN BKT.out nq)
        have n2_ := Aside0.mk (blk_drewN BKO.out nq)
        have n3_ := Aside0.mk (blk_drewN BK4.out nq)
        clear t0 t1 o0 o1 o2 o3 o4 o5 o6 o7 o8 o9 rr0 rr1 rf0 rf1
        clear HB BKT BKO BK4 x0 x1 x2 x3 x4 x5
        generalize w7.drewN nq = w8 at n0_ n1_ n2_ n3_ ⊢
        have HB := n0_
        have BKT := n1_
        have BKO := n2_
        have BK4 := n3_
        clear n0_ n1_ n2_ n3_
        have t0 : w8.cell? ⟨gt, 0, none⟩ = some (.slice (some ad) l0_0.length c0_0) := (blk_cell BKT.out 0).trans rfl
        have t1 : w8.cell? ⟨gt, 1, none⟩ = some (.int .i64 a0_1) := (blk_cell BKT.out 1).trans rfl
        have o0 : w8.cell? ⟨go, 0, none⟩ = some (.int .i64 a1_0) := (blk_cell BKO.out 0).trans rfl
        have o1 : w8.cell? ⟨go, 1, none⟩ = some (.int .i64 a1_1) := (blk_cell BKO.out 1).trans rfl
        have o2 : w8.cell? ⟨go, 2, none⟩ = some (.int .i64 a1_2) := (blk_cell BKO.out 2).trans rfl
        have o3 : w8.cell? ⟨go, 3, none⟩ = some (.int .i64 a1_3) := (blk_cell BKO.out 3).trans rfl
        have o4 : w8.cell? ⟨go, 4, none⟩ = some (.int .i64 a1_4) := (blk_cell BKO.out 4).trans rfl
        have o5 : w8.cell? ⟨go, 5, none⟩ = some (.int .i64 a1_5) := (blk_cell BKO.out 5).trans rfl
        have o6 : w8.cell? ⟨go, 6, none⟩ = some (.bool a1_6) := (blk_cell BKO.out 6).trans rfl
        have o7 : w8.cell? ⟨go, 7, none⟩ = some (.int .i64 a1_7) := (blk_cell BKO.out 7).trans rfl
        have o8 : w8.cell? ⟨go, 8, none⟩ = some (.int .i64 a1_8) := (blk_cell BKO.out 8).trans rfl
        have o9 : w8.cell? ⟨go, 9, none⟩ = some (.int .i64 a1_9) := (blk_cell BKO.out 9).trans rfl
        have rr0 : w8.cell? ⟨g4, 0, none⟩ = some (.slice none 0 0) := (blk_cell BK4.out 0).trans rfl
        have rr1 : w8.cell? ⟨g4, 1, none⟩ = some (.int .i64 0) := (blk_cell BK4.out 1).trans rfl
        have rf0 := blk_frozen BK4.out 0
        have rf1 := blk_frozen BK4.out 1
        go_wp2
        refine bodyPost_ret (results_ct rfl _ _ g4 46 #[.slice none 0 0, .int .i64 0] (0, 0) _ rfl (by first | exact BK4.out | (refine blk_put (cs := #[.slice none 0 0, .int .i64 0]) ?_ 1 _ rfl; refine blk_put (cs := #[.slice none 0 0, .int .i64 0]) ?_ 0 _ rfl; exact BK4.out)) Try.underlying46 rfl (by kernel_rfl)) rfl ?_
        exact ⟨_, rfl, Kd.R_nil _ _ _ _ _, by first | exact HB.out | exact below_set (below_set HB.out G4.out) G4.out⟩
       ·rw [if_neg hcd] at h2
        obtain ⟨rfl, rfl, rfl⟩ : l0_0.take p ++ [reC x a1_8] ++ l0_0.drop (p + 1) = r1 ∧ a0_1 = r2 ∧ (0 : Int) = r3 := by simpa using h2
        clear h2
        obtain ⟨Y, hY⟩ : ∃ Y, l0_0.take p ++ [reC x a1_8] ++ l0_0.drop (p + 1) = Y := ⟨_, rfl⟩
        rw [hY]
        have HY := Aside0.mk hY
        clear hY
        have hcd2 : a1_8 ≤ x.f0.f2 := by omega
        go_enter Try.func37, Try.ntmps37
        go_upto_region 12 with (first
         | ((with_reducible refine gate_dst (N := 2) rfl ?_); refine box_event ?hg (N := 2) ?hd (cs := #[.slice A0_0 l0_0.length c0_0, .int .i64 a0_1]) (t := 46) ?hr ?_; (case hd => rfl); (case hg => rfl); (case hr => first | (go_simp; done) | (go_simp; rfl)); intro gt hg w2 hbox hb; have n0_ := Aside0.mk (below_step HB.out hb); have BKT := Aside0.mk hbox; have GTT := Aside0.mk (show w.heap.size ≤ gt by rw [hg]; exact Nat.le_refl _); clear HB; have HB := n0_; clear n0_; clear hb hbox hg)
         | ((with_reducible refine gate_dst (N := 3) rfl ?_); refine box_event ?hg (N := 3) ?hd (cs := #[.int .i64 a1_0, .int .i64 a1_1, .int .i64 a1_2, .int .i64 a1_3, .int .i64 a1_4, .int .i64 a1_5, .bool a1_6, .int .i64 a1_7, .int .i64 a1_8, .int .i64 a1_9]) (t := 50) ?hr ?_; (case hd => rfl); (case hg => rfl); (case hr => first | (go_simp; done) | (go_simp; rfl)); intro go hg w3 hbox hb; have n0_ := Aside0.mk (below_step HB.out hb); have n1_ := Aside0.mk (blk_below BKT.out hb); have BKO := Aside0.mk hbox; clear HB BKT; have HB := n0_; have BKT := n1_; clear n0_ n1_; clear hb hbox hg)
         | ((with_reducible refine gate_dst (N := 4) rfl ?_); refine box_event ?hg (N := 4) ?hd (cs := #[.slice none 0 0, .int .i64 0]) (t := 46) ?hr ?_; (case hd => rfl); (case hg => rfl); (case hr => first | (go_simp; done) | (go_simp; rfl)); intro g4 hg w4 hbox hb; have n0_ := Aside0.mk (below_step HB.out hb); have n1_ := Aside0.mk (blk_below BKT.out hb); have n2_ := Aside0.mk (blk_below BKO.out hb); have BK4 := Aside0.mk hbox; have G4 := Aside0.mk (show w.heap.size ≤ g4 by rw [hg]; exact below_size HB.out); have N4 := Aside0.mk (show gt ≠ g4 by rw [hg]; exact Nat.ne_of_lt (blk_lt BKT.out)); have N5 := Aside0.mk (show go ≠ g4 by rw [hg]; exact Nat.ne_of_lt (blk_lt BKO.out)); clear HB BKT BKO; have HB := n0_; have BKT := n1_; have BKO := n2_; clear n0_ n1_ n2_; clear hb hbox hg; have t0 : w4.cell? ⟨gt, 0, none⟩ = some (.slice A0_0 l0_0.length c0_0) := (blk_cell BKT.out 0).trans rfl; have t1 : w4.cell? ⟨gt, 1, none⟩ = some (.int .i64 a0_1) := (blk_cell BKT.out 1).trans rfl; have o0 : w4.cell? ⟨go, 0, none⟩ = some (.int .i64 a1_0) := (blk_cell BKO.out 0).trans rfl; have o1 : w4.cell? ⟨go, 1, none⟩ = some (.int .i64 a1_1) := (blk_cell BKO.out 1).trans rfl; have o2 : w4.cell? ⟨go, 2, none⟩ = some (.int .i64 a1_2) := (blk_cell BKO.out 2).trans rfl; have o3 : w4.cell? ⟨go, 3, none⟩ = some (.int .i64 a1_3) := (blk_cell BKO.out 3).trans rfl; have o4 : w4.cell? ⟨go, 4, none⟩ = some (.int .i64 a1_4) := (blk_cell BKO.out 4).trans rfl; have o5 : w4.cell? ⟨go, 5, none⟩ = some (.int .i64 a1_5) := (blk_cell BKO.out 5).trans rfl; have o6 : w4.cell? ⟨go, 6, none⟩ = some (.bool a1_6) := (blk_cell BKO.out 6).trans rfl; have o7 : w4.cell? ⟨go, 7, none⟩ = some (.int .i64 a1_7) := (blk_cell BKO.out 7).trans rfl; have o8 : w4.cell? ⟨go, 8, none⟩ = some (.int .i64 a1_8) := (blk_cell BKO.out 8).trans rfl; have o9 : w4.cell? ⟨go, 9, none⟩ = some (.int .i64 a1_9) := (blk_cell BKO.out 9).trans rfl; have rr0 : w4.cell? ⟨g4, 0, none⟩ = some (.slice none 0 0) := (blk_cell BK4.out 0).trans rfl; have rr1 : w4.cell? ⟨g4, 1, none⟩ = some (.int .i64 0) := (blk_cell BK4.out 1).trans rfl; have rf0 := blk_frozen BK4.out 0; have rf1 := blk_frozen BK4.out 1)
         | (go_at_call 57; refine (table_Check.calls A0_0 c0_0 l0_0 a0_1 true _ (Kd.C_below HR0.out HB.out) HC0.out HCK.out).mono ?_; rintro e w5 ⟨rfl, hb1⟩; have n0_ := Aside0.mk (below_step HB.out hb1); have n1_ := Aside0.mk (blk_below BKT.out hb1); have n2_ := Aside0.mk (blk_below BKO.out hb1); have n3_ := Aside0.mk (blk_below BK4.out hb1); clear hb1 HB BKT BKO BK4; clear t0 t1 o0 o1 o2 o3 o4 o5 o6 o7 o8 o9 rr0 rr1 rf0 rf1; have HB := n0_; have BKT := n1_; have BKO := n2_; have BK4 := n3_; clear n0_ n1_ n2_ n3_; have t0 : w5.cell? ⟨gt, 0, none⟩ = some (.slice A0_0 l0_0.length c0_0) := (blk_cell BKT.out 0).trans rfl; have t1 : w5.cell? ⟨gt, 1, none⟩ = some (.int .i64 a0_1) := (blk_cell BKT.out 1).trans rfl; have o0 : w5.cell? ⟨go, 0, none⟩ = some (.int .i64 a1_0) := (blk_cell BKO.out 0).trans rfl; have o1 : w5.cell? ⟨go, 1, none⟩ = some (.int .i64 a1_1) := (blk_cell BKO.out 1).trans rfl; have o2 : w5.cell? ⟨go, 2, none⟩ = some (.int .i64 a1_2) := (blk_cell BKO.out 2).trans rfl; have o3 : w5.cell? ⟨go, 3, none⟩ = some (.int .i64 a1_3) := (blk_cell BKO.out 3).trans rfl; have o4 : w5.cell? ⟨go, 4, none⟩ = some (.int .i64 a1_4) := (blk_cell BKO.out 4).trans rfl; have o5 : w5.cell? ⟨go, 5, none⟩ = some (.int .i64 a1_5) := (blk_cell BKO.out 5).trans rfl; have o6 : w5.cell? ⟨go, 6, none⟩ = some (.bool a1_6) := (blk_cell BKO.out 6).trans rfl; have o7 : w5.cell? ⟨go, 7, none⟩ = some (.int .i64 a1_7) := (blk_cell BKO.out 7).trans rfl; have o8 : w5.cell? ⟨go, 8, none⟩ = some (.int .i64 a1_8) := (blk_cell BKO.out 8).trans rfl; have o9 : w5.cell? ⟨go, 9, none⟩ = some (.int .i64 a1_9) := (blk_cell BKO.out 9).trans rfl; have rr0 : w5.cell? ⟨g4, 0, none⟩ = some (.slice none 0 0) := (blk_cell BK4.out 0).trans rfl; have rr1 : w5.cell? ⟨g4, 1, none⟩ = some (.int .i64 0) := (blk_cell BK4.out 1).trans rfl; have rf0 := blk_frozen BK4.out 0; have rf1 := blk_frozen BK4.out 1)
         | (go_at_call 58; refine (ops_Check.calls a1_0 a1_1 a1_2 a1_3 a1_4 a1_5 a1_6 a1_7 a1_8 a1_9 true _ HOK.out).mono ?_; rintro e w6 ⟨rfl, hb1⟩; have n0_ := Aside0.mk (below_step HB.out hb1); have n1_ := Aside0.mk (blk_below BKT.out hb1); have n2_ := Aside0.mk (blk_below BKO.out hb1); have n3_ := Aside0.mk (blk_below BK4.out hb1); clear hb1 HB BKT BKO BK4; clear t0 t1 o0 o1 o2 o3 o4 o5 o6 o7 o8 o9 rr0 rr1 rf0 rf1; have HB := n0_; have BKT := n1_; have BKO := n2_; have BK4 := n3_; clear n0_ n1_ n2_ n3_; have t0 : w6.cell? ⟨gt, 0, none⟩ = some (.slice A0_0 l0_0.length c0_0) := (blk_cell BKT.out 0).trans rfl; have t1 : w6.cell? ⟨gt, 1, none⟩ = some (.int .i64 a0_1) := (blk_cell BKT.out 1).trans rfl; have o0 : w6.cell? ⟨go, 0, none⟩ = some (.int .i64 a1_0) := (blk_cell BKO.out 0).trans rfl; have o1 : w6.cell? ⟨go, 1, none⟩ = some (.int .i64 a1_1) := (blk_cell BKO.out 1).trans rfl; have o2 : w6.cell? ⟨go, 2, none⟩ = some (.int .i64 a1_2) := (blk_cell BKO.out 2).trans rfl; have o3 : w6.cell? ⟨go, 3, none⟩ = some (.int .i64 a1_3) := (blk_cell BKO.out 3).trans rfl; have o4 : w6.cell? ⟨go, 4, none⟩ = some (.int .i64 a1_4) := (blk_cell BKO.out 4).trans rfl; have o5 : w6.cell? ⟨go, 5, none⟩ = some (.int .i64 a1_5) := (blk_cell BKO.out 5).trans rfl; have o6 : w6.cell? ⟨go, 6, none⟩ = some (.bool a1_6) := (blk_cell BKO.out 6).trans rfl; have o7 : w6.cell? ⟨go, 7, none⟩ = some (.int .i64 a1_7) := (blk_cell BKO.out 7).trans rfl; have o8 : w6.cell? ⟨go, 8, none⟩ = some (.int .i64 a1_8) := (blk_cell BKO.out 8).trans rfl; have o9 : w6.cell? ⟨go, 9, none⟩ = some (.int .i64 a1_9) := (blk_cell BKO.out 9).trans rfl; have rr0 : w6.cell? ⟨g4, 0, none⟩ = some (.slice none 0 0) := (blk_cell BK4.out 0).trans rfl; have rr1 : w6.cell? ⟨g4, 1, none⟩ = some (.int .i64 0) := (blk_cell BK4.out 1).trans rfl; have rf0 := blk_frozen BK4.out 0; have rf1 := blk_frozen BK4.out 1)
         | (go_at_call 59; refine (table_at.calls A0_0 c0_0 l0_0 a0_1 a1_7 _ _ _ (Kd.C_below HR0.out HB.out) HC0.out HAT.out).mono ?_; rintro e w7 ⟨rfl, hb1⟩; have n0_ := Aside0.mk (below_step HB.out hb1); have n1_ := Aside0.mk (blk_below BKT.out hb1); have n2_ := Aside0.mk (blk_below BKO.out hb1); have n3_ := Aside0.mk (blk_below BK4.out hb1); clear hb1 HB BKT BKO BK4; clear t0 t1 o0 o1 o2 o3 o4 o5 o6 o7 o8 o9 rr0 rr1 rf0 rf1; have HB := n0_; have BKT := n1_; have BKO := n2_; have BK4 := n3_; clear n0_ n1_ n2_ n3_; have t0 : w7.cell? ⟨gt, 0, none⟩ = some (.slice A0_0 l0_0.length c0_0) := (blk_cell BKT.out 0).trans rfl; have t1 : w7.cell? ⟨gt, 1, none⟩ = some (.int .i64 a0_1) := (blk_cell BKT.out 1).trans rfl; have o0 : w7.cell? ⟨go, 0, none⟩ = some (.int .i64 a1_0) := (blk_cell BKO.out 0).trans rfl; have o1 : w7.cell? ⟨go, 1, none⟩ = some (.int .i64 a1_1) := (blk_cell BKO.out 1).trans rfl; have o2 : w7.cell? ⟨go, 2, none⟩ = some (.int .i64 a1_2) := (blk_cell BKO.out 2).trans rfl; have o3 : w7.cell? ⟨go, 3, none⟩ = some (.int .i64 a1_3) := (blk_cell BKO.out 3).trans rfl; have o4 : w7.cell? ⟨go, 4, none⟩ = some (.int .i64 a1_4) := (blk_cell BKO.out 4).trans rfl; have o5 : w7.cell? ⟨go, 5, none⟩ = some (.int .i64 a1_5) := (blk_cell BKO.out 5).trans rfl; have o6 : w7.cell? ⟨go, 6, none⟩ = some (.bool a1_6) := (blk_cell BKO.out 6).trans rfl; have o7 : w7.cell? ⟨go, 7, none⟩ = some (.int .i64 a1_7) := (blk_cell BKO.out 7).trans rfl; have o8 : w7.cell? ⟨go, 8, none⟩ = some (.int .i64 a1_8) := (blk_cell BKO.out 8).trans rfl; have o9 : w7.cell? ⟨go, 9, none⟩ = some (.int .i64 a1_9) := (blk_cell BKO.out 9).trans rfl; have rr0 : w7.cell? ⟨g4, 0, none⟩ = some (.slice none 0 0) := (blk_cell BK4.out 0).trans rfl; have rr1 : w7.cell? ⟨g4, 1, none⟩ = some (.int .i64 0) := (blk_cell BK4.out 1).trans rfl; have rf0 := blk_frozen BK4.out 0; have rf1 := blk_frozen BK4.out 1))
        obtain ⟨ad, e0, x0, x1, x2, x3, x4, x5⟩ := at_T60 HR0.out p p0 q0
        cases e0
        rw [HX.out] at x0 x1 x2 x3 x4 x5
        simp only [Int.toNat_natCast] at x0 x1 x2 x3 x4 x5
        replace x0 := (HB.out.cell (World.block_lt_of_cell? w _ x0)).trans x0
        replace x1 := (HB.out.cell (World.block_lt_of_cell? w _ x1)).trans x1
        replace x2 := (HB.out.cell (World.block_lt_of_cell? w _ x2)).trans x2
        replace x3 := (HB.out.cell (World.block_lt_of_cell? w _ x3)).trans x3
        replace x4 := (HB.out.cell (World.block_lt_of_cell? w _ x4)).trans x4
        replace x5 := (HB.out.cell (World.block_lt_of_cell? w _ x5)).trans x5
        go_quiet (fail)
        have n0_ := Aside0.mk (pw_below_drewN HB.out nq)
        have n1_ := Aside0.mk (blk_drewN BKT.out nq)
        have n2_ := Aside0.mk (blk_drewN BKO.out nq)
        have n3_ := Aside0.mk (blk_drewN BK4.out nq)
        clear t0 t1 o0 o1 o2 o3 o4 o5 o6 o7 o8 o9 rr0 rr1 rf0 rf1
        clear HB BKT BKO BK4 x0 x1 x2 x3 x4 x5
        generalize w7.drewN nq = w8 at n0_ n1_ n2_ n3_ ⊢
        have HB := n0_
        have BKT := n1_
        have BKO := n2_
        have BK4 := n3_
        clear n0_ n1_ n2_ n3_
        have t0 : w8.cell? ⟨gt, 0, none⟩ = some (.slice (some ad) l0_0.length c0_0) := (blk_cell BKT.out 0).trans rfl
        have t1 : w8.cell? ⟨gt, 1, none⟩ = some (.int .i64 a0_1) := (blk_cell BKT.out 1).trans rfl
        have o0 : w8.cell? ⟨go, 0, none⟩ = some (.int .i64 a1_0) := (blk_cell BKO.out 0).trans rfl
        have o1 : w8.cell? ⟨go, 1, none⟩ = some (.int .i64 a1_1) := (blk_cell BKO.out 1).trans rfl
        have o2 : w8.cell? ⟨go, 2, none⟩ = some (.int .i64 a1_2) := (blk_cell BKO.out 2).trans rfl
        have o3 : w8.cell? ⟨go, 3, none⟩ = some (.int .i64 a1_3) := (blk_cell BKO.out 3).trans rfl
        have o4 : w8.cell? ⟨go, 4, none⟩ = some (.int .i64 a1_4) := (blk_cell BKO.out 4).trans rfl
        have o5 : w8.cell? ⟨go, 5, none⟩ = some (.int .i64 a1_5) := (blk_cell BKO.out 5).trans rfl
        have o6 : w8.cell? ⟨go, 6, none⟩ = some (.bool a1_6) := (blk_cell BKO.out 6).trans rfl
        have o7 : w8.cell? ⟨go, 7, none⟩ = some (.int .i64 a1_7) := (blk_cell BKO.out 7).trans rfl
        have o8 : w8.cell? ⟨go, 8, none⟩ = some (.int .i64 a1_8) := (blk_cell BKO.out 8).trans rfl
        have o9 : w8.cell? ⟨go, 9, none⟩ = some (.int .i64 a1_9) := (blk_cell BKO.out 9).trans rfl
        have rr0 : w8.cell? ⟨g4, 0, none⟩ = some (.slice none 0 0) := (blk_cell BK4.out 0).trans rfl
        have rr1 : w8.cell? ⟨g4, 1, none⟩ = some (.int .i64 0) := (blk_cell BK4.out 1).trans rfl
        have rf0 := blk_frozen BK4.out 0
        have rf1 := blk_frozen BK4.out 1
        obtain ⟨ad_, e0, x0, x1, x2, x3, x4, x5⟩ := at_T60 HR0.out p p0 q0
        obtain rfl : ad = ad_ := (by injection e0)
        clear e0
        rw [HX.out] at x0 x1 x2 x3 x4 x5
        simp only [Int.toNat_natCast] at x0 x1 x2 x3 x4 x5
        replace x0 := (HB.out.cell (World.block_lt_of_cell? w _ x0)).trans x0
        replace x1 := (HB.out.cell (World.block_lt_of_cell? w _ x1)).trans x1
        replace x2 := (HB.out.cell (World.block_lt_of_cell? w _ x2)).trans x2
        replace x3 := (HB.out.cell (World.block_lt_of_cell? w _ x3)).trans x3
        replace x4 := (HB.out.cell (World.block_lt_of_cell? w _ x4)).trans x4
        replace x5 := (HB.out.cell (World.block_lt_of_cell? w _ x5)).trans x5
        go_upto_region 15 with ((with_reducible refine gate_dst (N := 8) rfl ?_); refine box_event ?hg (N := 8) ?hd (cs := #[.int .i64 0, .int .i64 0, .int .i64 0, .int .i64 0, .int .i64 0, .bool false]) (t := 60) ?hr ?_; (case hd => rfl); (case hg => rfl); (case hr => first | (go_simp; done) | (go_simp; rfl)); intro g8 hg w9 hbox hb1; have B8 := Aside0.mk hbox; have G8 := Aside0.mk (show w.heap.size ≤ g8 by rw [hg]; exact below_size HB.out); have N8 := Aside0.mk (show gt ≠ g8 ∧ go ≠ g8 ∧ g4 ≠ g8 by rw [hg]; exact ⟨Nat.ne_of_lt (blk_lt BKT.out), Nat.ne_of_lt (blk_lt BKO.out), Nat.ne_of_lt (blk_lt BK4.out)⟩); clear hbox hg; have n0_ := Aside0.mk (below_step HB.out hb1); have n1_ := Aside0.mk (blk_below BKT.out hb1); have n2_ := Aside0.mk (blk_below BKO.out hb1); have n3_ := Aside0.mk (blk_below BK4.out hb1); clear hb1 HB BKT BKO BK4; clear t0 t1 o0 o1 o2 o3 o4 o5 o6 o7 o8 o9 rr0 rr1 rf0 rf1; have HB := n0_; have BKT := n1_; have BKO := n2_; have BK4 := n3_; clear n0_ n1_ n2_ n3_; have t0 : w9.cell? ⟨gt, 0, none⟩ = some (.slice (some ad) l0_0.length c0_0) := (blk_cell BKT.out 0).trans rfl; have t1 : w9.cell? ⟨gt, 1, none⟩ = some (.int .i64 a0_1) := (blk_cell BKT.out 1).trans rfl; have o0 : w9.cell? ⟨go, 0, none⟩ = some (.int .i64 a1_0) := (blk_cell BKO.out 0).trans rfl; have o1 : w9.cell? ⟨go, 1, none⟩ = some (.int .i64 a1_1) := (blk_cell BKO.out 1).trans rfl; have o2 : w9.cell? ⟨go, 2, none⟩ = some (.int .i64 a1_2) := (blk_cell BKO.out 2).trans rfl; have o3 : w9.cell? ⟨go, 3, none⟩ = some (.int .i64 a1_3) := (blk_cell BKO.out 3).trans rfl; have o4 : w9.cell? ⟨go, 4, none⟩ = some (.int .i64 a1_4) := (blk_cell BKO.out 4).trans rfl; have o5 : w9.cell? ⟨go, 5, none⟩ = some (.int .i64 a1_5) := (blk_cell BKO.out 5).trans rfl; have o6 : w9.cell? ⟨go, 6, none⟩ = some (.bool a1_6) := (blk_cell BKO.out 6).trans rfl; have o7 : w9.cell? ⟨go, 7, none⟩ = some (.int .i64 a1_7) := (blk_cell BKO.out 7).trans rfl; have o8 : w9.cell? ⟨go, 8, none⟩ = some (.int .i64 a1_8) := (blk_cell BKO.out 8).trans rfl; have o9 : w9.cell? ⟨go, 9, none⟩ = some (.int .i64 a1_9) := (blk_cell BKO.out 9).trans rfl; have rr0 : w9.cell? ⟨g4, 0, none⟩ = some (.slice none 0 0) := (blk_cell BK4.out 0).trans rfl; have rr1 : w9.cell? ⟨g4, 1, none⟩ = some (.int .i64 0) := (blk_cell BK4.out 1).trans rfl; have rf0 := blk_frozen BK4.out 0; have rf1 := blk_frozen BK4.out 1; have hn1 := N8.out.1; have hn2 := N8.out.2.1; have hn3 := N8.out.2.2; have hm1 := Ne.symm N8.out.1; have hm2 := Ne.symm N8.out.2.1; have hm3 := Ne.symm N8.out.2.2; have z0 : w9.cell? ⟨g8, 0, none⟩ = some (.int .i64 0) := (blk_cell B8.out 0).trans rfl; have z1 : w9.cell? ⟨g8, 1, none⟩ = some (.int .i64 0) := (blk_cell B8.out 1).trans rfl; have z2 : w9.cell? ⟨g8, 2, none⟩ = some (.int .i64 0) := (blk_cell B8.out 2).trans rfl; have z3 : w9.cell? ⟨g8, 3, none⟩ = some (.int .i64 0) := (blk_cell B8.out 3).trans rfl; have z4 : w9.cell? ⟨g8, 4, none⟩ = some (.int .i64 0) := (blk_cell B8.out 4).trans rfl; have z5 : w9.cell? ⟨g8, 5, none⟩ = some (.bool false) := (blk_cell B8.out 5).trans rfl; have y0 := blk_frozen B8.out 0; have y1 := blk_frozen B8.out 1; have y2 := blk_frozen B8.out 2; have y3 := blk_frozen B8.out 3; have y4 := blk_frozen B8.out 4; have y5 := blk_frozen B8.out 5)
        (try simp only [Act.put, List.setIfInBounds_toArray, List.set_cons_zero, List.set_cons_succ])
        rw [put6W_eq w9 g8 x]
        have n0_ := Aside0.mk (put6_below HB.out G8.out x)
        have n1_ := Aside0.mk (put6_far BKT.out N8.out.1 x)
        have n2_ := Aside0.mk (put6_far BKO.out N8.out.2.1 x)
        have n3_ := Aside0.mk (put6_far BK4.out N8.out.2.2 x)
        have n4_ := Aside0.mk (put6_at B8.out x)
        clear t0 t1 o0 o1 o2 o3 o4 o5 o6 o7 o8 o9 rr0 rr1 rf0 rf1
        clear HB BKT BKO BK4 B8 z0 z1 z2 z3 z4 z5 y0 y1 y2 y3 y4 y5 x0 x1 x2 x3 x4 x5
        generalize put6W w9 g8 x = w10 at n0_ n1_ n2_ n3_ n4_ ⊢
        have HB := n0_
        have BKT := n1_
        have BKO := n2_
        have BK4 := n3_
        have B8 := n4_
        clear n0_ n1_ n2_ n3_ n4_
        have t0 : w10.cell? ⟨gt, 0, none⟩ = some (.slice (some ad) l0_0.length c0_0) := (blk_cell BKT.out 0).trans rfl
        have t1 : w10.cell? ⟨gt, 1, none⟩ = some (.int .i64 a0_1) := (blk_cell BKT.out 1).trans rfl
        have o0 : w10.cell? ⟨go, 0, none⟩ = some (.int .i64 a1_0) := (blk_cell BKO.out 0).trans rfl
        have o1 : w10.cell? ⟨go, 1, none⟩ = some (.int .i64 a1_1) := (blk_cell BKO.out 1).trans rfl
        have o2 : w10.cell? ⟨go, 2, none⟩ = some (.int .i64 a1_2) := (blk_cell BKO.out 2).trans rfl
        have o3 : w10.cell? ⟨go, 3, none⟩ = some (.int .i64 a1_3) := (blk_cell BKO.out 3).trans rfl
        have o4 : w10.cell? ⟨go, 4, none⟩ = some (.int .i64 a1_4) := (blk_cell BKO.out 4).trans rfl
        have o5 : w10.cell? ⟨go, 5, none⟩ = some (.int .i64 a1_5) := (blk_cell BKO.out 5).trans rfl
        have o6 : w10.cell? ⟨go, 6, none⟩ = some (.bool a1_6) := (blk_cell BKO.out 6).trans rfl
        have o7 : w10.cell? ⟨go, 7, none⟩ = some (.int .i64 a1_7) := (blk_cell BKO.out 7).trans rfl
        have o8 : w10.cell? ⟨go, 8, none⟩ = some (.int .i64 a1_8) := (blk_cell BKO.out 8).trans rfl
        have o9 : w10.cell? ⟨go, 9, none⟩ = some (.int .i64 a1_9) := (blk_cell BKO.out 9).trans rfl
        have z0 : w10.cell? ⟨g8, 0, none⟩ = some (.int .i64 x.f0.f0) := (blk_cell B8.out 0).trans rfl
        have z1 : w10.cell? ⟨g8, 1, none⟩ = some (.int .i64 x.f0.f1) := (blk_cell B8.out 1).trans rfl
        have z2 : w10.cell? ⟨g8, 2, none⟩ = some (.int .i64 x.f0.f2) := (blk_cell B8.out 2).trans rfl
        have z3 : w10.cell? ⟨g8, 3, none⟩ = some (.int .i64 x.f0.f3) := (blk_cell B8.out 3).trans rfl
        have z4 : w10.cell? ⟨g8, 4, none⟩ = some (.int .i64 x.f0.f4) := (blk_cell B8.out 4).trans rfl
        have z5 : w10.cell? ⟨g8, 5, none⟩ = some (.bool x.f1) := (blk_cell B8.out 5).trans rfl
        have y1 := blk_frozen B8.out 1
        have HX1 : Aside0 (Kd.C k60 ((w10.setCell ⟨g8, 1, none⟩ (.int .i64 a1_8)).alloc (.cells #[.int .i64 x.f0.f0, .int .i64 a1_8, .int .i64 x.f0.f2, .int .i64 x.f0.f3, .int .i64 x.f0.f4, .bool x.f1] 60)) (some ⟨w10.heap.size, 0, none⟩) [reC x a1_8].length [reC x a1_8]) := ⟨by have h := oneRow_C (w10.setCell ⟨g8, 1, none⟩ (.int .i64 a1_8)) (reC x a1_8); rw [World.size_setCell] at h; exact h⟩
        have HBW : Aside0 (Below w.heap.size w ((w10.setCell ⟨g8, 1, none⟩ (.int .i64 a1_8)).alloc (.cells #[.int .i64 x.f0.f0, .int .i64 a1_8, .int .i64 x.f0.f2, .int .i64 x.f0.f3, .int .i64 x.f0.f4, .bool x.f1] 60))) := ⟨below_alloc (below_set HB.out G8.out) _⟩
        have H4W : Aside0 (((w10.setCell ⟨g8, 1, none⟩ (.int .i64 a1_8)).alloc (.cells #[.int .i64 x.f0.f0, .int .i64 a1_8, .int .i64 x.f0.f2, .int .i64 x.f0.f3, .int .i64 x.f0.f4, .bool x.f1] 60)).heap[g4]? = some (.cells #[.slice none 0 0, .int .i64 0] 46 (0, 0))) := ⟨blk_alloc (blk_far (p := ⟨g8, 1, none⟩) BK4.out N8.out.2.2 _) _⟩
        go_wp2_with fail
        go_at_call 62
        (try rw [show ((p : Int) + 1) = ((p + 1 : Nat) : Int) from rfl])
        refine (table_with.calls (some ad) c0_0 l0_0 a0_1 p (p + 1) (some ⟨w10.heap.size, 0, none⟩) 1 [reC x a1_8] ((w10.setCell ⟨g8, 1, none⟩ (.int .i64 a1_8)).alloc (.cells #[.int .i64 x.f0.f0, .int .i64 a1_8, .int .i64 x.f0.f2, .int .i64 x.f0.f3, .int .i64 x.f0.f4, .bool x.f1] 60)) (Kd.C_below HR0.out HBW.out) HC0.out HX1.out (by simp) (Nat.le_of_lt HLT.out) HLT.out (by have := HM.out; omega) (by simp)).mono ?_
        rintro e w11 ⟨v8, rfl, hr, hb1⟩
        rw [HY.out] at hr
        obtain ⟨A8, c8, rfl⟩ := Kd.R_slice hr
        have HR6 := Aside0.mk (Kd.R_lower hr (below_size HBW.out))
        have n0_ := Aside0.mk (below_step HBW.out hb1)
        have n3_ := Aside0.mk (blk_below H4W.out hb1)
        clear hr hb1 HB BK4 BKT BKO t0 t1 o0 o1 o2 o3 o4 o5 o6 o7 o8 o9 z0 z1 z2 z3 z4 z5 y1
        have HB := n0_
        have BK4 := n3_
        clear n0_ n3_
        have rr0 : w11.cell? ⟨g4, 0, none⟩ = some (.slice none 0 0) := (blk_cell BK4.out 0).trans rfl
        have rr1 : w11.cell? ⟨g4, 1, none⟩ = some (.int .i64 0) := (blk_cell BK4.out 1).trans rfl
        have rf0 := blk_frozen BK4.out 0
        have rf1 := blk_frozen BK4.out 1
        go_wp2
        refine bodyPost_ret (results_ct rfl _ _ g4 46 #[.slice A8 Y.length c8, .int .i64 a0_1] (0, 0) _ rfl (by refine blk_put (cs := #[.slice A8 Y.length c8, .int .i64 0]) ?_ 1 _ rfl; refine blk_put (cs := #[.slice none 0 0, .int .i64 0]) ?_ 0 _ rfl; exact BK4.out) Try.underlying46 rfl (by kernel_rfl)) rfl ?_
        exact ⟨_, rfl, Kd.R_set (Kd.R_set HR6.out BK4.out (by decide) 0 _) (blk_set BK4.out 0 _) (by decide) 1 _, by first | exact HB.out | exact below_set (below_set HB.out G4.out) G4.out⟩

/-! ### table_Tasks: function 69 -/
def table_Tasks.l0 : Nat → List (S31) → List (S60) → Int → Int → Option ((List (S31)))
 | 0, _, _, _, _ => none
 | k + 1, x3, x7, x8, x9 => if x9 < x8 then (if 0 ≤ x9 then (if x9 < (x7.length : Int) then (if x3.length < 3518437208883 then (table_Tasks.l0 k (x3 ++ [(⟨(rd_T60 x7 x9).f0.f0, (rd_T60 x7 x9).f0.f1, (rd_T60 x7 x9).f0.f2, (rd_T60 x7 x9).f0.f3, (rd_T60 x7 x9).f0.f4⟩ : S31)]) x7 x8 (wrap64 (x9 + 1))) else (none)) else (none)) else (none)) else (some x3)
def table_Tasks.f (k : Nat) (l0_0 : List (S60)) (a0_1 : Int) : Option ((List (S31))) := table_Tasks.l0 k ([] : List (S31)) l0_0 (l0_0.length : Int) 0
theorem table_Tasks.mono_l : ∀ k, (∀ y0 y1 y2 y3, LeO (table_Tasks.l0 k y0 y1 y2 y3) (table_Tasks.l0 (k + 1) y0 y1 y2 y3))
 | 0 => fun _ _ _ _ r h => by simp [table_Tasks.l0] at h
 | k + 1 => by
  have ih0 := table_Tasks.mono_l k
  ·intro y0 y1 y2 y3
   unfold table_Tasks.l0
   repeat' first
   | (with_reducible exact ih0 _ _ _ _)
   | (with_reducible exact LeO.refl _)
   | (with_reducible exact LeO.none _)
   | (with_reducible refine LeO.ite ?_ ?_)
   | (with_reducible refine LeO.bind ?_ (fun _ => ?_))
   | exact ih0 _ _ _ _
   | exact LeO.none _
   | refine LeO.ite ?_ ?_
   | refine LeO.bind ?_ (fun _ => ?_)
theorem table_Tasks.mono : ∀ a0 a1 k, LeO (table_Tasks.f k a0 a1) (table_Tasks.f (k + 1) a0 a1) := by
 intro a0 a1 k
 have ih0 := table_Tasks.mono_l k
 unfold table_Tasks.f
 repeat' first
   | (with_reducible exact ih0 _ _ _ _)
   | (with_reducible exact LeO.refl _)
   | (with_reducible exact LeO.none _)
   | (with_reducible refine LeO.ite ?_ ?_)
   | (with_reducible refine LeO.bind ?_ (fun _ => ?_))
   | exact ih0 _ _ _ _
   | exact LeO.none _
   | refine LeO.ite ?_ ?_
   | refine LeO.bind ?_ (fun _ => ?_)
set_option maxHeartbeats 8000000 in
set_option maxRecDepth 100000 in
theorem table_Tasks.calls (k : Nat) (A0_0 : Option Addr) (c0_0 : Nat) (l0_0 : List (S60)) (a0_1 : Int) (r : List (S31)) (w : World) (hr0_0 : Kd.C k60 w A0_0 l0_0.length l0_0) (hc0_0 : l0_0.length ≤ c0_0) (h : table_Tasks.f k l0_0 a0_1 = some r) :
  Calls Try.prog 69 #[.agg #[.slice A0_0 l0_0.length c0_0, .int .i64 a0_1]] w fun e w' => ∃ v0_ : Value, e = .returned (v0_) ∧ Kd.R k31 31 w' w.heap.size (fun _ => True) v0_ r ∧ Below w.heap.size w w' := by
 have hu46 := Try.underlying46
 have hu60 := Try.underlying60
 have hu31 := Try.underlying31
 have HR0_0 := Aside0.mk hr0_0
 have HC0_0 := Aside0.mk hc0_0
 clear hr0_0 hc0_0
 have HB := Aside0.mk (Below.refl w.heap.size w)
 have H : (table_Tasks.l0 k ([] : List (S31)) l0_0 (l0_0.length : Int) 0) = some r := h
 clear h
 have H' := Aside0.mk H
 clear H
 go_enter Try.func69, Try.ntmps69
 go_wp2_with (first | ((with_reducible refine gate_dst (N := 1) rfl ?_); refine box_event ?hg (N := 1) ?hd (cs := #[.slice A0_0 l0_0.length c0_0, .int .i64 a0_1]) (t := 46) ?hr ?_; (case hd => rfl); (case hg => rfl); (case hr => first | (go_simp; done) | (go_simp; rfl)); intro gb140 hg w2 hbox hb; have n0_ := Aside0.mk (below_step bl_ hb); have n1_ := Aside0.mk (hbox); have n2_ := Aside0.mk ((by rw [hg]; exact (below_size bl_) : w.heap.size ≤ gb140)); have n3_ := Aside0.mk ((by rw [hg]; exact (below_size bl_) : w.heap.size ≤ gb140)); clear HB; have HB := n0_; have BK140 := n1_; have GW140 := n2_; have GE140 := n3_; clear n0_ n1_ n2_ n3_; clear hb hbox hg; have hcz3_0 : w2.cell? ⟨gb140, 0, none⟩ = some (.slice A0_0 l0_0.length c0_0) := (blk_cell BK140.out 0).trans rfl; have hcz3_1 : w2.cell? ⟨gb140, 1, none⟩ = some (.int .i64 a0_1) := (blk_cell BK140.out 1).trans rfl; have hfz3_0 := blk_frozen BK140.out 0; have hfz3_1 := blk_frozen BK140.out 1))
 go_loopg [3, 9] k (fun kq v3 v9 w' => ∃ (x3_1 : List (S31)) (x9_1 : Int), v9 = .int .i64 x9_1 ∧ Aside0 (table_Tasks.l0 kq x3_1 l0_0 (l0_0.length : Int) x9_1 = some r) ∧ Aside0 (kq ≤ k) ∧ Aside0 (Kd.R k31 31 w' w.heap.size (fun _ => True) v3 x3_1) ∧ Aside0 (w'.heap[gb140]? = some (.cells #[(.slice A0_0 l0_0.length c0_0), .int .i64 a0_1] 46 (0, 0))) ∧ Aside0 (Below w.heap.size w w'))
 case atStart => exact ⟨(([] : List (S31))), (0), (by first | rfl | (simp; done) | (simp [*]; done)), H', ⟨Nat.le_refl _⟩, ⟨by first | exact Kd.R_nil _ _ _ _ _ | exact Kd.N_nil _ _ _ _ _ | exact Kd.V_nil _ _ _ _ _ | exact Kd.Q_nil _ _ _ _ _ | exact Kd.S_nil _ _ _ _ _⟩, ⟨bk_⟩, ⟨bl_⟩⟩
 case round =>
  clear H'
  try clear p2
  try clear hcz3_0
  try clear hcz3_1
  try clear hfz3_0
  try clear hfz3_1
  obtain ⟨x3_1, x9_1, rfl, HA, HK1, HO_3, BK140, HB⟩ := hrel
  cases gk with
  | zero => exact absurd HA.out (by simp [table_Tasks.l0])
  | succ k1 =>
   have H := HA.out
   clear HA
   simp only [table_Tasks.l0] at H
   by_cases c4 : x9_1 < (l0_0.length : Int)
   ·rw [if_pos c4] at H
    have c4b0 : decide (x9_1 < (l0_0.length : Int)) = true := decide_eq_true c4
    clear c4
    by_cases c5 : 0 ≤ x9_1
    ·rw [if_pos c5] at H
     have c5b0 : decide (0 ≤ x9_1) = true := decide_eq_true c5
     clear c5
     by_cases c6 : x9_1 < (l0_0.length : Int)
     ·rw [if_pos c6] at H
      have c6b0 : decide (x9_1 < (l0_0.length : Int)) = true := decide_eq_true c6
      clear c6
      by_cases c7 : x3_1.length < 3518437208883
      ·rw [if_pos c7] at H
       have LMc7 := Aside0.mk c7
       clear c7
       obtain ⟨y143, hy143⟩ : ∃ y_ : List (S31), y_ = (x3_1 ++ [(⟨(rd_T60 l0_0 x9_1).f0.f0, (rd_T60 l0_0 x9_1).f0.f1, (rd_T60 l0_0 x9_1).f0.f2, (rd_T60 l0_0 x9_1).f0.f3, (rd_T60 l0_0 x9_1).f0.f4⟩ : S31)]) := ⟨_, rfl⟩
       replace H : (table_Tasks.l0 k1 y143 l0_0 (l0_0.length : Int) (wrap64 (x9_1 + 1))) = some r := by first | (rw [hy143]; with_reducible exact H) | (have H2_ := (Option.bind_some _ _).symm.trans H; rw [hy143]; with_reducible exact H2_) | (have H2_ := (Option.bind_some _ _).symm.trans H; with_reducible exact H2_) | with_reducible exact H | (rw [hy143]; exact H) | exact H
       have Ny143 := Aside0.mk hy143
       clear hy143
       have H' := Aside0.mk H
       clear H
       have p141 : 0 ≤ (x9_1 : Int) := of_decide_eq_true (by first | (with_reducible assumption) | assumption)
       have q141 : x9_1 < (l0_0.length : Int) := of_decide_eq_true (by first | (with_reducible assumption) | assumption)
       obtain ⟨ad141, e141, hx141_0, hx141_1, hx141_2, hx141_3, hx141_4, hx141_5⟩ := at_T60 HR0_0.out x9_1 p141 q141
       cases e141
       replace hx141_0 := (HB.out.cell (World.block_lt_of_cell? w _ hx141_0)).trans hx141_0
       replace hx141_1 := (HB.out.cell (World.block_lt_of_cell? w _ hx141_1)).trans hx141_1
       replace hx141_2 := (HB.out.cell (World.block_lt_of_cell? w _ hx141_2)).trans hx141_2
       replace hx141_3 := (HB.out.cell (World.block_lt_of_cell? w _ hx141_3)).trans hx141_3
       replace hx141_4 := (HB.out.cell (World.block_lt_of_cell? w _ hx141_4)).trans hx141_4
       replace hx141_5 := (HB.out.cell (World.block_lt_of_cell? w _ hx141_5)).trans hx141_5
       replace p141 := eq_true p141
       replace q141 := eq_true q141
       go_wp2_with (first | ((with_reducible refine gate_dst (N := 5) rfl ?_); refine box_event ?hg (N := 5) ?hd (cs := #[.int .i64 0, .int .i64 0, .int .i64 0, .int .i64 0, .int .i64 0, .bool false]) (t := 60) ?hr ?_; (case hd => rfl); (case hg => rfl); (case hr => first | (go_simp; done) | (go_simp; rfl)); intro gb142 hg w8 hbox hb; have n0_ := Aside0.mk (Kd.R_below (by (with_reducible repeat (first | apply Kd.R_alloc | apply Kd.R_drewN | apply Kd.R_drew)); exact HO_3.out) hb); have n1_ := Aside0.mk (blk_below (g := gb140) (o := .cells #[.slice (some ad141) l0_0.length c0_0, .int .i64 a0_1] 46 (0, 0)) bk_ hb); have n2_ := Aside0.mk (below_step bl_ hb); have n3_ := Aside0.mk (hbox); have n4_ := Aside0.mk ((by rw [hg]; exact (below_size bl_) : w.heap.size ≤ gb142)); have n5_ := Aside0.mk ((by rw [hg]; exact (below_size bl_) : w.heap.size ≤ gb142)); have n6_ := Aside0.mk ((by rw [hg]; exact Nat.ne_of_lt (blk_lt (g := gb140) (o := .cells #[.slice (some ad141) l0_0.length c0_0, .int .i64 a0_1] 46 (0, 0)) bk_) : gb140 ≠ gb142)); have n7_ := Aside0.mk ((by rw [hg]; exact Nat.ne_of_gt (blk_lt (g := gb140) (o := .cells #[.slice (some ad141) l0_0.length c0_0, .int .i64 a0_1] 46 (0, 0)) bk_) : gb142 ≠ gb140)); clear HO_3; clear BK140; clear HB; have HO_3 := n0_; have BK140 := n1_; have HB := n2_; have BK142 := n3_; have GW142 := n4_; have GE142 := n5_; have NB140_142 := n6_; have NB142_140 := n7_; clear n0_ n1_ n2_ n3_ n4_ n5_ n6_ n7_; clear hb hbox hg; have hnb9 := NB142_140.out; have hnc9 := NB140_142.out; have hcz10_0 : w8.cell? ⟨gb142, 0, none⟩ = some (.int .i64 0) := (blk_cell BK142.out 0).trans rfl; have hcz10_1 : w8.cell? ⟨gb142, 1, none⟩ = some (.int .i64 0) := (blk_cell BK142.out 1).trans rfl; have hcz10_2 : w8.cell? ⟨gb142, 2, none⟩ = some (.int .i64 0) := (blk_cell BK142.out 2).trans rfl; have hcz10_3 : w8.cell? ⟨gb142, 3, none⟩ = some (.int .i64 0) := (blk_cell BK142.out 3).trans rfl; have hcz10_4 : w8.cell? ⟨gb142, 4, none⟩ = some (.int .i64 0) := (blk_cell BK142.out 4).trans rfl; have hcz10_5 : w8.cell? ⟨gb142, 5, none⟩ = some (.bool false) := (blk_cell BK142.out 5).trans rfl; have hfz10_0 := blk_frozen BK142.out 0; have hfz10_1 := blk_frozen BK142.out 1; have hfz10_2 := blk_frozen BK142.out 2; have hfz10_3 := blk_frozen BK142.out 3; have hfz10_4 := blk_frozen BK142.out 4; have hfz10_5 := blk_frozen BK142.out 5) | ((with_reducible refine gate_builtin (b := .append) (xs := #[.tmp 13, .tmp 16]) rfl ?_); at_builtin; refine Kd.R_append k31 (w0 := w) w.heap.size rfl (.tmp 13) (.tmp 16) 24 31 (.agg #[(.int .i64 0), (.int .i64 0), (.int .i64 0), (.int .i64 0), (.int .i64 0)]) 40 rfl Try.underlying24 info31 rfl (by decide) (by omega) u3 x3_1 (⟨(rd_T60 l0_0 x9_1).f0.f0, (rd_T60 l0_0 x9_1).f0.f1, (rd_T60 l0_0 x9_1).f0.f2, (rd_T60 l0_0 x9_1).f0.f3, (rd_T60 l0_0 x9_1).f0.f4⟩ : S31) [.int .i64 ((rd_T60 l0_0 x9_1).f0.f0), .int .i64 ((rd_T60 l0_0 x9_1).f0.f1), .int .i64 ((rd_T60 l0_0 x9_1).f0.f2), .int .i64 ((rd_T60 l0_0 x9_1).f0.f3), .int .i64 ((rd_T60 l0_0 x9_1).f0.f4)] (fun _ => True) (fun _ => False) rfl (by first | (go_simp; done) | (go_simp; rfl)) ?aP (fun _ hk => hk.elim) ?aF ?aO ?aB ?aS ?aL ?_; (case aP => exact k31_mkM _ _ _ (⟨(rd_T60 l0_0 x9_1).f0.f0, (rd_T60 l0_0 x9_1).f0.f1, (rd_T60 l0_0 x9_1).f0.f2, (rd_T60 l0_0 x9_1).f0.f3, (rd_T60 l0_0 x9_1).f0.f4⟩ : S31)); (case aB => exact bl_); (case aF => exact (fun _ _ => trivial)); (case aO => exact (by (with_reducible repeat (first | apply Kd.R_alloc | apply Kd.R_drewN | apply Kd.R_drew)); exact Kd.R_mono (Kd.R_far (p := ⟨gb142, 5, none⟩) (Kd.R_far (p := ⟨gb142, 4, none⟩) (Kd.R_far (p := ⟨gb142, 3, none⟩) (Kd.R_far (p := ⟨gb142, 2, none⟩) (Kd.R_far (p := ⟨gb142, 1, none⟩) (Kd.R_far (p := ⟨gb142, 0, none⟩) (Kd.R_types HO_3.out BK142.out (by decide)) (fun _ hk => hk.2) (.int .i64 ((rd_T60 l0_0 x9_1).f0.f0))) (fun _ hk => hk.2) (.int .i64 ((rd_T60 l0_0 x9_1).f0.f1))) (fun _ hk => hk.2) (.int .i64 ((rd_T60 l0_0 x9_1).f0.f2))) (fun _ hk => hk.2) (.int .i64 ((rd_T60 l0_0 x9_1).f0.f3))) (fun _ hk => hk.2) (.int .i64 ((rd_T60 l0_0 x9_1).f0.f4))) (fun _ hk => hk.2) (.bool ((rd_T60 l0_0 x9_1).f1))) (fun _ hk => trivial))); (case aS => exact (below_size bl_)); (case aL => have := LMc7.out; omega); intro v144 w11 ho hb hg hat; rw [← Ny143.out] at ho; have n0_ := Aside0.mk (blk_grown (g := gb140) (o := .cells #[.slice (some ad141) l0_0.length c0_0, .int .i64 a0_1] 46 (0, 0)) (by (with_reducible repeat (first | refine blk_drewN ?_ _ | refine blk_drew ?_ | refine blk_alloc ?_ _)); refine blk_far ?_ NB140_142.out _; (with_reducible repeat (first | refine blk_drewN ?_ _ | refine blk_drew ?_ | refine blk_alloc ?_ _)); refine blk_far ?_ NB140_142.out _; (with_reducible repeat (first | refine blk_drewN ?_ _ | refine blk_drew ?_ | refine blk_alloc ?_ _)); refine blk_far ?_ NB140_142.out _; (with_reducible repeat (first | refine blk_drewN ?_ _ | refine blk_drew ?_ | refine blk_alloc ?_ _)); refine blk_far ?_ NB140_142.out _; (with_reducible repeat (first | refine blk_drewN ?_ _ | refine blk_drew ?_ | refine blk_alloc ?_ _)); refine blk_far ?_ NB140_142.out _; (with_reducible repeat (first | refine blk_drewN ?_ _ | refine blk_drew ?_ | refine blk_alloc ?_ _)); refine blk_far ?_ NB140_142.out _; (with_reducible repeat (first | refine blk_drewN ?_ _ | refine blk_drew ?_ | refine blk_alloc ?_ _)); exact BK140.out) hg (Kd.R_ne HO_3.out BK140.out (by decide))); have n1_ := Aside0.mk (blk_grown (g := gb142) (o := .cells #[.int .i64 ((rd_T60 l0_0 x9_1).f0.f0), .int .i64 ((rd_T60 l0_0 x9_1).f0.f1), .int .i64 ((rd_T60 l0_0 x9_1).f0.f2), .int .i64 ((rd_T60 l0_0 x9_1).f0.f3), .int .i64 ((rd_T60 l0_0 x9_1).f0.f4), .bool ((rd_T60 l0_0 x9_1).f1)] 60 (0, 0)) (by (with_reducible repeat (first | refine blk_drewN ?_ _ | refine blk_drew ?_ | refine blk_alloc ?_ _)); refine blk_put (cs := #[.int .i64 ((rd_T60 l0_0 x9_1).f0.f0), .int .i64 ((rd_T60 l0_0 x9_1).f0.f1), .int .i64 ((rd_T60 l0_0 x9_1).f0.f2), .int .i64 ((rd_T60 l0_0 x9_1).f0.f3), .int .i64 ((rd_T60 l0_0 x9_1).f0.f4), .bool false]) ?_ 5 _ rfl; (with_reducible repeat (first | refine blk_drewN ?_ _ | refine blk_drew ?_ | refine blk_alloc ?_ _)); refine blk_put (cs := #[.int .i64 ((rd_T60 l0_0 x9_1).f0.f0), .int .i64 ((rd_T60 l0_0 x9_1).f0.f1), .int .i64 ((rd_T60 l0_0 x9_1).f0.f2), .int .i64 ((rd_T60 l0_0 x9_1).f0.f3), .int .i64 0, .bool false]) ?_ 4 _ rfl; (with_reducible repeat (first | refine blk_drewN ?_ _ | refine blk_drew ?_ | refine blk_alloc ?_ _)); refine blk_put (cs := #[.int .i64 ((rd_T60 l0_0 x9_1).f0.f0), .int .i64 ((rd_T60 l0_0 x9_1).f0.f1), .int .i64 ((rd_T60 l0_0 x9_1).f0.f2), .int .i64 0, .int .i64 0, .bool false]) ?_ 3 _ rfl; (with_reducible repeat (first | refine blk_drewN ?_ _ | refine blk_drew ?_ | refine blk_alloc ?_ _)); refine blk_put (cs := #[.int .i64 ((rd_T60 l0_0 x9_1).f0.f0), .int .i64 ((rd_T60 l0_0 x9_1).f0.f1), .int .i64 0, .int .i64 0, .int .i64 0, .bool false]) ?_ 2 _ rfl; (with_reducible repeat (first | refine blk_drewN ?_ _ | refine blk_drew ?_ | refine blk_alloc ?_ _)); refine blk_put (cs := #[.int .i64 ((rd_T60 l0_0 x9_1).f0.f0), .int .i64 0, .int .i64 0, .int .i64 0, .int .i64 0, .bool false]) ?_ 1 _ rfl; (with_reducible repeat (first | refine blk_drewN ?_ _ | refine blk_drew ?_ | refine blk_alloc ?_ _)); refine blk_put (cs := #[.int .i64 0, .int .i64 0, .int .i64 0, .int .i64 0, .int .i64 0, .bool false]) ?_ 0 _ rfl; (with_reducible repeat (first | refine blk_drewN ?_ _ | refine blk_drew ?_ | refine blk_alloc ?_ _)); exact BK142.out) hg (Kd.R_ne HO_3.out BK142.out (by decide))); have n2_ := Aside0.mk (hb); have n3_ := Aside0.mk (ho); clear BK140; clear BK142; clear HB; clear HO_3; have BK140 := n0_; have BK142 := n1_; have HB := n2_; have HO145 := n3_; clear n0_ n1_ n2_ n3_; clear ho hb hg hat))
       go_roundg k1
       case measure => have := HK1.out; omega
       case rel => exact ⟨(y143), (wrap64 (x9_1 + 1)), (by first | rfl | (simp; done) | (simp [*]; done)), H', ⟨by have := HK1.out; omega⟩, ⟨by (with_reducible repeat (first | apply Kd.R_alloc | apply Kd.R_drewN | apply Kd.R_drew)); exact HO145.out⟩, ⟨bk_⟩, ⟨bl_⟩⟩
      ·rw [if_neg c7] at H
       exact absurd H (by simp)
     ·rw [if_neg c6] at H
      exact absurd H (by simp)
    ·rw [if_neg c5] at H
     exact absurd H (by simp)
   ·rw [if_neg c4] at H
    have c4b0 : decide (x9_1 < (l0_0.length : Int)) = false := decide_eq_false c4
    clear c4
    obtain rfl := Option.some.inj H
    go_wp2
    go_ret
    exact ⟨_, by first | rfl | (simp [errW_none, errW_some] <;> rfl) | (simp [*, errW_none, errW_some] <;> rfl), by (with_reducible repeat (first | apply Kd.R_alloc | apply Kd.R_drewN | apply Kd.R_drew)); exact HO_3.out, bl_⟩

/-! ### busy_may: function 128 -/
def busy_may.f (l0 : List (S31)) (a1 : Int) : Option (Bool) := (param_Row.f l0).bind fun t146 => (if t146 = true then (if a1 ≥ 0 then (some (decide (a1 ≤ 1099511627776))) else (some false)) else (some false))
set_option maxHeartbeats 8000000 in
set_option maxRecDepth 100000 in
theorem busy_may.calls (A0 : Option Addr) (c0 : Nat) (l0 : List (S31)) (a1 : Int) (r : Bool) (w : World) (hr0 : Kd.C k31 w A0 l0.length l0) (hc0 : l0.length ≤ c0) (h : busy_may.f l0 a1 = some r) :
  Calls Try.prog 128 #[.slice A0 l0.length c0, .int .i64 a1] w fun e w' => e = .returned (.bool r) ∧ Below w.heap.size w w' := by
 have HR0 := Aside0.mk hr0
 have HC0 := Aside0.mk hc0
 clear hr0 hc0
 have HB := Aside0.mk (Below.refl w.heap.size w)
 have H : ((param_Row.f l0).bind fun t146 => (if t146 = true then (if a1 ≥ 0 then (some (decide (a1 ≤ 1099511627776))) else (some false)) else (some false))) = some r := h
 clear h
 replace H := Option.bind_eq_some_iff.mp H
 obtain ⟨t146, A30, H⟩ := H
 replace H : (if t146 = true then (if a1 ≥ 0 then (some (decide (a1 ≤ 1099511627776))) else (some false)) else (some false)) = some r := H
 have A3 := Aside0.mk A30
 clear A30
 by_cases c4 : t146 = true
 ·subst c4
  have H1 : (if a1 ≥ 0 then (some (decide (a1 ≤ 1099511627776))) else (some false)) = some r := by rw [if_pos rfl] at H; exact H
  clear H
  have H := H1
  clear H1
  by_cases c5 : a1 ≥ 0
  ·rw [if_pos c5] at H
   have c5b0 : decide (0 ≤ a1) = true := decide_eq_true c5
   clear c5
   obtain rfl := Option.some.inj H
   go_enter Try.func128, Try.ntmps128
   go_wp2_with (first | ((with_reducible refine gate_callee (f := 31) rfl ?_); refine goesL_ (some 6) rfl rfl Try.func31 (by kernel_rfl) rfl #[.slice A0 l0.length c0] rfl (by (try simp only [List.map_toArray, List.map_cons, List.map_nil]); first | done | rfl | (simp only [List.length_drop, List.length_take]; rfl)) ?_; (with_reducible refine (param_Row.calls _ _ l0 true _ ?side1 ?side2 A3.out).mono ?_); (case side1 => repeat (first | exact HR0.out | (with_reducible refine Kd.C_alloc ?_ _) | (with_reducible refine Kd.C_drewN ?_ _) | (with_reducible refine Kd.C_drew ?_))); (case side2 => exact HC0.out); rintro e w6 ⟨rfl, hb⟩; refine ⟨_, rfl, ?_⟩; have n0_ := Aside0.mk (below_step bl_ hb); clear HB; have HB := n0_; clear n0_; (try clear hb); (try clear hb2); (try clear hk); (try clear hi)))
   go_ret
   exact ⟨by first | rfl | (simp [errW_none, errW_some] <;> rfl) | (simp [*, errW_none, errW_some] <;> rfl), bl_⟩
  ·rw [if_neg c5] at H
   have c5b0 : decide (0 ≤ a1) = false := decide_eq_false c5
   clear c5
   obtain rfl := Option.some.inj H
   go_enter Try.func128, Try.ntmps128
   go_wp2_with (first | ((with_reducible refine gate_callee (f := 31) rfl ?_); refine goesL_ (some 6) rfl rfl Try.func31 (by kernel_rfl) rfl #[.slice A0 l0.length c0] rfl (by (try simp only [List.map_toArray, List.map_cons, List.map_nil]); first | done | rfl | (simp only [List.length_drop, List.length_take]; rfl)) ?_; (with_reducible refine (param_Row.calls _ _ l0 true _ ?side1 ?side2 A3.out).mono ?_); (case side1 => repeat (first | exact HR0.out | (with_reducible refine Kd.C_alloc ?_ _) | (with_reducible refine Kd.C_drewN ?_ _) | (with_reducible refine Kd.C_drew ?_))); (case side2 => exact HC0.out); rintro e w7 ⟨rfl, hb⟩; refine ⟨_, rfl, ?_⟩; have n0_ := Aside0.mk (below_step bl_ hb); clear HB; have HB := n0_; clear n0_; (try clear hb); (try clear hb2); (try clear hk); (try clear hi)))
   go_ret
   exact ⟨by first | rfl | (simp [errW_none, errW_some] <;> rfl) | (simp [*, errW_none, errW_some] <;> rfl), bl_⟩
 ·replace c4 := Bool.eq_false_iff.mpr c4
  subst c4
  have H1 : (some false) = some r := by rw [if_neg (show ¬ (false = true) by decide)] at H; exact H
  clear H
  have H := H1
  clear H1
  obtain rfl := Option.some.inj H
  go_enter Try.func128, Try.ntmps128
  go_wp2_with (first | ((with_reducible refine gate_callee (f := 31) rfl ?_); refine goesL_ (some 6) rfl rfl Try.func31 (by kernel_rfl) rfl #[.slice A0 l0.length c0] rfl (by (try simp only [List.map_toArray, List.map_cons, List.map_nil]); first | done | rfl | (simp only [List.length_drop, List.length_take]; rfl)) ?_; (with_reducible refine (param_Row.calls _ _ l0 false _ ?side1 ?side2 A3.out).mono ?_); (case side1 => repeat (first | exact HR0.out | (with_reducible refine Kd.C_alloc ?_ _) | (with_reducible refine Kd.C_drewN ?_ _) | (with_reducible refine Kd.C_drew ?_))); (case side2 => exact HC0.out); rintro e w8 ⟨rfl, hb⟩; refine ⟨_, rfl, ?_⟩; have n0_ := Aside0.mk (below_step bl_ hb); clear HB; have HB := n0_; clear n0_; (try clear hb); (try clear hb2); (try clear hk); (try clear hi)))
  go_ret
  exact ⟨by first | rfl | (simp [errW_none, errW_some] <;> rfl) | (simp [*, errW_none, errW_some] <;> rfl), bl_⟩

/-! ### busy_Work: function 119 -/
def busy_Work.l0 : Nat → Int → Int → List (S31) → Int → Int → Option (Int)
 | 0, _, _, _, _, _ => none
 | k + 1, x1, x5, x12, x13, x14 => if x14 < x13 then (if 0 ≤ x14 then (if x14 < (x12.length : Int) then (if ((rd_T31 x12 x14).f3) = 0 then (none) else (busy_Work.l0 k x1 (wrap64 (x5 + (wrap64 (((rd_T31 x12 x14).f1) * (wrap64 (Int.tdiv (wrap64 ((wrap64 (x1 + ((rd_T31 x12 x14).f3))) - 1)) ((rd_T31 x12 x14).f3))))))) x12 x13 (wrap64 (x14 + 1)))) else (none)) else (none)) else (some x5)
def busy_Work.f (k : Nat) (l0 : List (S31)) (a1 : Int) : Option (Int) := (busy_may.f l0 a1).bind fun t147 => (if t147 = true then (busy_Work.l0 k a1 0 l0 (l0.length : Int) 0) else (some 0))
theorem busy_Work.mono_l : ∀ k, (∀ y0 y1 y2 y3 y4, LeO (busy_Work.l0 k y0 y1 y2 y3 y4) (busy_Work.l0 (k + 1) y0 y1 y2 y3 y4))
 | 0 => fun _ _ _ _ _ r h => by simp [busy_Work.l0] at h
 | k + 1 => by
  have ih0 := busy_Work.mono_l k
  ·intro y0 y1 y2 y3 y4
   unfold busy_Work.l0
   repeat' first
   | (with_reducible exact ih0 _ _ _ _ _)
   | (with_reducible exact LeO.refl _)
   | (with_reducible exact LeO.none _)
   | (with_reducible refine LeO.ite ?_ ?_)
   | (with_reducible refine LeO.bind ?_ (fun _ => ?_))
   | exact ih0 _ _ _ _ _
   | exact LeO.none _
   | refine LeO.ite ?_ ?_
   | refine LeO.bind ?_ (fun _ => ?_)
theorem busy_Work.mono : ∀ a0 a1 k, LeO (busy_Work.f k a0 a1) (busy_Work.f (k + 1) a0 a1) := by
 intro a0 a1 k
 have ih0 := busy_Work.mono_l k
 unfold busy_Work.f
 repeat' first
   | (with_reducible exact ih0 _ _ _ _ _)
   | (with_reducible exact LeO.refl _)
   | (with_reducible exact LeO.none _)
   | (with_reducible refine LeO.ite ?_ ?_)
   | (with_reducible refine LeO.bind ?_ (fun _ => ?_))
   | exact ih0 _ _ _ _ _
   | exact LeO.none _
   | refine LeO.ite ?_ ?_
   | refine LeO.bind ?_ (fun _ => ?_)
set_option maxHeartbeats 8000000 in
set_option maxRecDepth 100000 in
theorem busy_Work.calls (k : Nat) (A0 : Option Addr) (c0 : Nat) (l0 : List (S31)) (a1 : Int) (r : Int) (w : World) (hr0 : Kd.C k31 w A0 l0.length l0) (hc0 : l0.length ≤ c0) (h : busy_Work.f k l0 a1 = some r) :
  Calls Try.prog 119 #[.slice A0 l0.length c0, .int .i64 a1] w fun e w' => e = .returned (.int .i64 r) ∧ Below w.heap.size w w' := by
 have hu31 := Try.underlying31
 have HR0 := Aside0.mk hr0
 have HC0 := Aside0.mk hc0
 clear hr0 hc0
 have HB := Aside0.mk (Below.refl w.heap.size w)
 have H : ((busy_may.f l0 a1).bind fun t147 => (if t147 = true then (busy_Work.l0 k a1 0 l0 (l0.length : Int) 0) else (some 0))) = some r := h
 clear h
 replace H := Option.bind_eq_some_iff.mp H
 obtain ⟨t147, A30, H⟩ := H
 replace H : (if t147 = true then (busy_Work.l0 k a1 0 l0 (l0.length : Int) 0) else (some 0)) = some r := H
 have A3 := Aside0.mk A30
 clear A30
 by_cases c4 : t147 = true
 ·subst c4
  have H1 : (busy_Work.l0 k a1 0 l0 (l0.length : Int) 0) = some r := by rw [if_pos rfl] at H; exact H
  clear H
  have H := H1
  clear H1
  have H' := Aside0.mk H
  clear H
  go_enter Try.func119, Try.ntmps119
  go_wp2_with (first | (go_at_call 128; (with_reducible refine (busy_may.calls _ _ l0 a1 true _ ?side1 ?side2 A3.out).mono ?_); (case side1 => repeat (first | exact HR0.out | (with_reducible refine Kd.C_alloc ?_ _) | (with_reducible refine Kd.C_drewN ?_ _) | (with_reducible refine Kd.C_drew ?_))); (case side2 => exact HC0.out); rintro e w5 ⟨rfl, hb⟩; have n0_ := Aside0.mk (below_step bl_ hb); clear HB; have HB := n0_; clear n0_; (try clear hb); (try clear hb2); (try clear hk); (try clear hi)))
  repeat (go_quiet (first | (go_at_call 128; (with_reducible refine (busy_may.calls _ _ l0 a1 true _ ?side1 ?side2 A3.out).mono ?_); (case side1 => repeat (first | exact HR0.out | (with_reducible refine Kd.C_alloc ?_ _) | (with_reducible refine Kd.C_drewN ?_ _) | (with_reducible refine Kd.C_drew ?_))); (case side2 => exact HC0.out); rintro e w5 ⟨rfl, hb⟩; have n0_ := Aside0.mk (below_step bl_ hb); clear HB; have HB := n0_; clear n0_; (try clear hb); (try clear hb2); (try clear hk); (try clear hi))); try go_wp2_with (first | (go_at_call 128; (with_reducible refine (busy_may.calls _ _ l0 a1 true _ ?side1 ?side2 A3.out).mono ?_); (case side1 => repeat (first | exact HR0.out | (with_reducible refine Kd.C_alloc ?_ _) | (with_reducible refine Kd.C_drewN ?_ _) | (with_reducible refine Kd.C_drew ?_))); (case side2 => exact HC0.out); rintro e w5 ⟨rfl, hb⟩; have n0_ := Aside0.mk (below_step bl_ hb); clear HB; have HB := n0_; clear n0_; (try clear hb); (try clear hb2); (try clear hk); (try clear hi))))
  go_loopg [5, 14] k (fun kq v5 v14 w' => ∃ (x5_1 : Int) (x14_1 : Int), v5 = .int .i64 x5_1 ∧ v14 = .int .i64 x14_1 ∧ Aside0 (busy_Work.l0 kq a1 x5_1 l0 (l0.length : Int) x14_1 = some r) ∧ Aside0 (kq ≤ k) ∧ Aside0 (Below w.heap.size w w'))
  case atStart => exact ⟨(0), (0), (by first | rfl | (simp; done) | (simp [*]; done)), (by first | rfl | (simp; done) | (simp [*]; done)), H', ⟨Nat.le_refl _⟩, ⟨bl_⟩⟩
  case round =>
   clear H'
   try clear c1
   try clear p2
   try clear c4
   obtain ⟨x5_1, x14_1, rfl, rfl, HA, HK1, HB⟩ := hrel
   cases gk with
   | zero => exact absurd HA.out (by simp [busy_Work.l0])
   | succ k1 =>
    have H := HA.out
    clear HA
    simp only [busy_Work.l0] at H
    by_cases c6 : x14_1 < (l0.length : Int)
    ·rw [if_pos c6] at H
     have c6b0 : decide (x14_1 < (l0.length : Int)) = true := decide_eq_true c6
     clear c6
     by_cases c7 : 0 ≤ x14_1
     ·rw [if_pos c7] at H
      have c7b0 : decide (0 ≤ x14_1) = true := decide_eq_true c7
      clear c7
      by_cases c8 : x14_1 < (l0.length : Int)
      ·rw [if_pos c8] at H
       have c8b0 : decide (x14_1 < (l0.length : Int)) = true := decide_eq_true c8
       clear c8
       by_cases c9 : ((rd_T31 l0 x14_1).f3) = 0
       ·rw [if_pos c9] at H
        exact absurd H (by simp)
       ·rw [if_neg c9] at H
        have c9b0 : (((rd_T31 l0 x14_1).f3) == 0) = false := beq_eq_false_iff_ne.mpr c9
        have c9b1 : (((rd_T31 l0 x14_1).f3) != 0) = true := bne_iff_ne.mpr c9
        have H' := Aside0.mk H
        clear H
        have p148 : 0 ≤ (x14_1 : Int) := of_decide_eq_true (by first | (with_reducible assumption) | assumption)
        have q148 : x14_1 < (l0.length : Int) := of_decide_eq_true (by first | (with_reducible assumption) | assumption)
        obtain ⟨ad148, e148, hx148_0, hx148_1, hx148_2, hx148_3, hx148_4⟩ := at_T31 HR0.out x14_1 p148 q148
        cases e148
        replace hx148_0 := (HB.out.cell (World.block_lt_of_cell? w _ hx148_0)).trans hx148_0
        replace hx148_1 := (HB.out.cell (World.block_lt_of_cell? w _ hx148_1)).trans hx148_1
        replace hx148_2 := (HB.out.cell (World.block_lt_of_cell? w _ hx148_2)).trans hx148_2
        replace hx148_3 := (HB.out.cell (World.block_lt_of_cell? w _ hx148_3)).trans hx148_3
        replace hx148_4 := (HB.out.cell (World.block_lt_of_cell? w _ hx148_4)).trans hx148_4
        replace p148 := eq_true p148
        replace q148 := eq_true q148
        go_wp2_with (first | ((with_reducible refine gate_dst (N := 7) rfl ?_); refine box_event ?hg (N := 7) ?hd (cs := #[.int .i64 0, .int .i64 0, .int .i64 0, .int .i64 0, .int .i64 0]) (t := 31) ?hr ?_; (case hd => rfl); (case hg => rfl); (case hr => first | (go_simp; done) | (go_simp; rfl)); intro gb149 hg w10 hbox hb; have n0_ := Aside0.mk (below_step bl_ hb); have n1_ := Aside0.mk (hbox); have n2_ := Aside0.mk ((by rw [hg]; exact (below_size bl_) : w.heap.size ≤ gb149)); have n3_ := Aside0.mk ((by rw [hg]; exact (below_size bl_) : w.heap.size ≤ gb149)); clear HB; have HB := n0_; have BK149 := n1_; have GW149 := n2_; have GE149 := n3_; clear n0_ n1_ n2_ n3_; clear hb hbox hg; have hcz11_0 : w10.cell? ⟨gb149, 0, none⟩ = some (.int .i64 0) := (blk_cell BK149.out 0).trans rfl; have hcz11_1 : w10.cell? ⟨gb149, 1, none⟩ = some (.int .i64 0) := (blk_cell BK149.out 1).trans rfl; have hcz11_2 : w10.cell? ⟨gb149, 2, none⟩ = some (.int .i64 0) := (blk_cell BK149.out 2).trans rfl; have hcz11_3 : w10.cell? ⟨gb149, 3, none⟩ = some (.int .i64 0) := (blk_cell BK149.out 3).trans rfl; have hcz11_4 : w10.cell? ⟨gb149, 4, none⟩ = some (.int .i64 0) := (blk_cell BK149.out 4).trans rfl; have hfz11_0 := blk_frozen BK149.out 0; have hfz11_1 := blk_frozen BK149.out 1; have hfz11_2 := blk_frozen BK149.out 2; have hfz11_3 := blk_frozen BK149.out 3; have hfz11_4 := blk_frozen BK149.out 4))
        repeat (go_quiet (first | ((with_reducible refine gate_dst (N := 7) rfl ?_); refine box_event ?hg (N := 7) ?hd (cs := #[.int .i64 0, .int .i64 0, .int .i64 0, .int .i64 0, .int .i64 0]) (t := 31) ?hr ?_; (case hd => rfl); (case hg => rfl); (case hr => first | (go_simp; done) | (go_simp; rfl)); intro gb149 hg w10 hbox hb; have n0_ := Aside0.mk (below_step bl_ hb); have n1_ := Aside0.mk (hbox); have n2_ := Aside0.mk ((by rw [hg]; exact (below_size bl_) : w.heap.size ≤ gb149)); have n3_ := Aside0.mk ((by rw [hg]; exact (below_size bl_) : w.heap.size ≤ gb149)); clear HB; have HB := n0_; have BK149 := n1_; have GW149 := n2_; have GE149 := n3_; clear n0_ n1_ n2_ n3_; clear hb hbox hg; have hcz11_0 : w10.cell? ⟨gb149, 0, none⟩ = some (.int .i64 0) := (blk_cell BK149.out 0).trans rfl; have hcz11_1 : w10.cell? ⟨gb149, 1, none⟩ = some (.int .i64 0) := (blk_cell BK149.out 1).trans rfl; have hcz11_2 : w10.cell? ⟨gb149, 2, none⟩ = some (.int .i64 0) := (blk_cell BK149.out 2).trans rfl; have hcz11_3 : w10.cell? ⟨gb149, 3, none⟩ = some (.int .i64 0) := (blk_cell BK149.out 3).trans rfl; have hcz11_4 : w10.cell? ⟨gb149, 4, none⟩ = some (.int .i64 0) := (blk_cell BK149.out 4).trans rfl; have hfz11_0 := blk_frozen BK149.out 0; have hfz11_1 := blk_frozen BK149.out 1; have hfz11_2 := blk_frozen BK149.out 2; have hfz11_3 := blk_frozen BK149.out 3; have hfz11_4 := blk_frozen BK149.out 4)); try go_wp2_with (first | ((with_reducible refine gate_dst (N := 7) rfl ?_); refine box_event ?hg (N := 7) ?hd (cs := #[.int .i64 0, .int .i64 0, .int .i64 0, .int .i64 0, .int .i64 0]) (t := 31) ?hr ?_; (case hd => rfl); (case hg => rfl); (case hr => first | (go_simp; done) | (go_simp; rfl)); intro gb149 hg w10 hbox hb; have n0_ := Aside0.mk (below_step bl_ hb); have n1_ := Aside0.mk (hbox); have n2_ := Aside0.mk ((by rw [hg]; exact (below_size bl_) : w.heap.size ≤ gb149)); have n3_ := Aside0.mk ((by rw [hg]; exact (below_size bl_) : w.heap.size ≤ gb149)); clear HB; have HB := n0_; have BK149 := n1_; have GW149 := n2_; have GE149 := n3_; clear n0_ n1_ n2_ n3_; clear hb hbox hg; have hcz11_0 : w10.cell? ⟨gb149, 0, none⟩ = some (.int .i64 0) := (blk_cell BK149.out 0).trans rfl; have hcz11_1 : w10.cell? ⟨gb149, 1, none⟩ = some (.int .i64 0) := (blk_cell BK149.out 1).trans rfl; have hcz11_2 : w10.cell? ⟨gb149, 2, none⟩ = some (.int .i64 0) := (blk_cell BK149.out 2).trans rfl; have hcz11_3 : w10.cell? ⟨gb149, 3, none⟩ = some (.int .i64 0) := (blk_cell BK149.out 3).trans rfl; have hcz11_4 : w10.cell? ⟨gb149, 4, none⟩ = some (.int .i64 0) := (blk_cell BK149.out 4).trans rfl; have hfz11_0 := blk_frozen BK149.out 0; have hfz11_1 := blk_frozen BK149.out 1; have hfz11_2 := blk_frozen BK149.out 2; have hfz11_3 := blk_frozen BK149.out 3; have hfz11_4 := blk_frozen BK149.out 4)))
        go_roundg k1
        case measure => have := HK1.out; omega
        case rel => exact ⟨(wrap64 (x5_1 + (wrap64 (((rd_T31 l0 x14_1).f1) * (wrap64 (Int.tdiv (wrap64 ((wrap64 (a1 + ((rd_T31 l0 x14_1).f3))) - 1)) ((rd_T31 l0 x14_1).f3))))))), (wrap64 (x14_1 + 1)), (by first | rfl | (simp; done) | (simp only [i64_w]; done) | (simp [*]; done)), (by first | rfl | (simp; done) | (simp [*]; done)), H', ⟨by have := HK1.out; omega⟩, ⟨bl_⟩⟩
      ·rw [if_neg c8] at H
       exact absurd H (by simp)
     ·rw [if_neg c7] at H
      exact absurd H (by simp)
    ·rw [if_neg c6] at H
     have c6b0 : decide (x14_1 < (l0.length : Int)) = false := decide_eq_false c6
     clear c6
     obtain rfl := Option.some.inj H
     go_wp2
     repeat (go_quiet (fail); try go_wp2)
     go_ret
     exact ⟨by first | rfl | (simp [errW_none, errW_some] <;> rfl) | (simp [*, errW_none, errW_some] <;> rfl), bl_⟩
 ·replace c4 := Bool.eq_false_iff.mpr c4
  subst c4
  have H1 : (some 0) = some r := by rw [if_neg (show ¬ (false = true) by decide)] at H; exact H
  clear H
  have H := H1
  clear H1
  obtain rfl := Option.some.inj H
  go_enter Try.func119, Try.ntmps119
  go_wp2_with (first | (go_at_call 128; (with_reducible refine (busy_may.calls _ _ l0 a1 false _ ?side1 ?side2 A3.out).mono ?_); (case side1 => repeat (first | exact HR0.out | (with_reducible refine Kd.C_alloc ?_ _) | (with_reducible refine Kd.C_drewN ?_ _) | (with_reducible refine Kd.C_drew ?_))); (case side2 => exact HC0.out); rintro e w12 ⟨rfl, hb⟩; have n0_ := Aside0.mk (below_step bl_ hb); clear HB; have HB := n0_; clear n0_; (try clear hb); (try clear hb2); (try clear hk); (try clear hi)))
  repeat (go_quiet (first | (go_at_call 128; (with_reducible refine (busy_may.calls _ _ l0 a1 false _ ?side1 ?side2 A3.out).mono ?_); (case side1 => repeat (first | exact HR0.out | (with_reducible refine Kd.C_alloc ?_ _) | (with_reducible refine Kd.C_drewN ?_ _) | (with_reducible refine Kd.C_drew ?_))); (case side2 => exact HC0.out); rintro e w12 ⟨rfl, hb⟩; have n0_ := Aside0.mk (below_step bl_ hb); clear HB; have HB := n0_; clear n0_; (try clear hb); (try clear hb2); (try clear hk); (try clear hi))); try go_wp2_with (first | (go_at_call 128; (with_reducible refine (busy_may.calls _ _ l0 a1 false _ ?side1 ?side2 A3.out).mono ?_); (case side1 => repeat (first | exact HR0.out | (with_reducible refine Kd.C_alloc ?_ _) | (with_reducible refine Kd.C_drewN ?_ _) | (with_reducible refine Kd.C_drew ?_))); (case side2 => exact HC0.out); rintro e w12 ⟨rfl, hb⟩; have n0_ := Aside0.mk (below_step bl_ hb); clear HB; have HB := n0_; clear n0_; (try clear hb); (try clear hb2); (try clear hk); (try clear hi))))
  go_ret
  exact ⟨by first | rfl | (simp [errW_none, errW_some] <;> rfl) | (simp [*, errW_none, errW_some] <;> rfl), bl_⟩

/-! ### param_Gcd: function 46 -/
def param_Gcd.l0 : Nat → Int → Int → Option (Int)
 | 0, _, _ => none
 | k + 1, x0, x1 => if x1 = 0 then (some (mx x0 (wrap64 (-x0)))) else (param_Gcd.l0 k x1 (Int.tmod x0 x1))
def param_Gcd.f (k : Nat) (a0 : Int) (a1 : Int) : Option (Int) := param_Gcd.l0 k a0 a1
theorem param_Gcd.mono_l : ∀ k, (∀ y0 y1, LeO (param_Gcd.l0 k y0 y1) (param_Gcd.l0 (k + 1) y0 y1))
 | 0 => fun _ _ r h => by simp [param_Gcd.l0] at h
 | k + 1 => by
  have ih0 := param_Gcd.mono_l k
  ·intro y0 y1
   unfold param_Gcd.l0
   repeat' first
   | (with_reducible exact ih0 _ _)
   | (with_reducible exact LeO.refl _)
   | (with_reducible exact LeO.none _)
   | (with_reducible refine LeO.ite ?_ ?_)
   | (with_reducible refine LeO.bind ?_ (fun _ => ?_))
   | exact ih0 _ _
   | exact LeO.none _
   | refine LeO.ite ?_ ?_
   | refine LeO.bind ?_ (fun _ => ?_)
theorem param_Gcd.mono : ∀ a0 a1 k, LeO (param_Gcd.f k a0 a1) (param_Gcd.f (k + 1) a0 a1) := by
 intro a0 a1 k
 have ih0 := param_Gcd.mono_l k
 unfold param_Gcd.f
 repeat' first
   | (with_reducible exact ih0 _ _)
   | (with_reducible exact LeO.refl _)
   | (with_reducible exact LeO.none _)
   | (with_reducible refine LeO.ite ?_ ?_)
   | (with_reducible refine LeO.bind ?_ (fun _ => ?_))
   | exact ih0 _ _
   | exact LeO.none _
   | refine LeO.ite ?_ ?_
   | refine LeO.bind ?_ (fun _ => ?_)
set_option maxHeartbeats 8000000 in
set_option maxRecDepth 100000 in
theorem param_Gcd.calls (k : Nat) (a0 : Int) (a1 : Int) (r : Int) (w : World) (h : param_Gcd.f k a0 a1 = some r) :
  Calls Try.prog 46 #[.int .i64 a0, .int .i64 a1] w fun e w' => e = .returned (.int .i64 r) ∧ Below w.heap.size w w' := by
 have HB := Aside0.mk (Below.refl w.heap.size w)
 have H : (param_Gcd.l0 k a0 a1) = some r := h
 clear h
 have H' := Aside0.mk H
 clear H
 go_enter Try.func46, Try.ntmps46
 go_wp2
 repeat (go_quiet (fail); try go_wp2)
 go_loopg [0, 1] k (fun kq v0 v1 w' => ∃ (x0_1 : Int) (x1_1 : Int), v0 = .int .i64 x0_1 ∧ v1 = .int .i64 x1_1 ∧ Aside0 (param_Gcd.l0 kq x0_1 x1_1 = some r) ∧ Aside0 (kq ≤ k) ∧ Aside0 (Below w.heap.size w w'))
 case atStart => exact ⟨(a0), (a1), (by first | rfl | (simp; done) | (simp [*]; done)), (by first | rfl | (simp; done) | (simp [*]; done)), H', ⟨Nat.le_refl _⟩, ⟨bl_⟩⟩
 case round =>
  clear H'
  try clear p2
  obtain ⟨x0_1, x1_1, rfl, rfl, HA, HK1, HB⟩ := hrel
  cases gk with
  | zero => exact absurd HA.out (by simp [param_Gcd.l0])
  | succ k1 =>
   have H := HA.out
   clear HA
   simp only [param_Gcd.l0] at H
   by_cases c3 : x1_1 = 0
   ·rw [if_pos c3] at H
    have c3b0 : (x1_1 == 0) = true := beq_iff_eq.mpr c3
    have c3b1 : (x1_1 != 0) = false := bne_eq_false_iff_eq.mpr c3
    clear c3
    obtain ⟨ji4, hji4⟩ : ∃ j_ : Int, (mx x0_1 (wrap64 (-x0_1))) = j_ := ⟨_, rfl⟩
    replace H : (some ji4) = some r := by first | (rw [hji4] at H; exact H) | (simp only [hji4] at H ⊢; exact H)
    have hji4_ : (if x0_1 < (wrap64 (-x0_1)) then (wrap64 (-x0_1)) else x0_1) = ji4 := hji4
    obtain rfl := Option.some.inj H
    go_wp2
    repeat (go_quiet (fail); try go_wp2)
    go_ret
    exact ⟨by first | rfl | (simp [errW_none, errW_some] <;> rfl) | (simp only [← hji4]; first | rfl | (simp [errW_none, errW_some] <;> rfl)) | (simp [*, errW_none, errW_some] <;> rfl), bl_⟩
   ·rw [if_neg c3] at H
    have c3b0 : (x1_1 == 0) = false := beq_eq_false_iff_ne.mpr c3
    have c3b1 : (x1_1 != 0) = true := bne_iff_ne.mpr c3
    have H' := Aside0.mk H
    clear H
    go_wp2
    repeat (go_quiet (fail); try go_wp2)
    go_roundg k1
    case measure => have := HK1.out; omega
    case rel => exact ⟨(x1_1), (Int.tmod x0_1 x1_1), (by first | rfl | (simp; done) | (simp [*]; done)), (by first | rfl | (simp; done) | (simp [*]; done)), H', ⟨by have := HK1.out; omega⟩, ⟨bl_⟩⟩

end Go.Proofs.Ythkagoomlmgcdaa.PJudgeFits
