-- Made by px.py (a program of this session, over the kit's printer) out of the translation. Not trusted: Lean checks it.
import Derived.Test.YtmgmpifbhjoijaaPProbeReportsx0
import Derived.Test.YtmgmpifbhjoijaaPProbeReportsx2
import Derived.Test.YtmgmpifbhjoijaaPProbeReportsx5
import Derived.Test.YtmgmpifbhjoijaaPProbeReportsx6
import Derived.Test.YtmgmpifbhjoijaaPProbeReportsx11
namespace Go.Proofs.Ytmgmpifbhjoijaa.PProbeReports
open Go.RowKit Go.Proofs.YtmgmpifbhjoijaaW.PrintWords Go.Proofs.YtmgmpifbhjoijaaW.PrintLast Go.Proofs.YtmgmpifbhjoijaaW.PrintMore
attribute [local go_sem] max2_int min2_int max_two min_two max_three min_three max_four min_four   -- for this text's walks alone
set_option linter.unusedVariables false
set_option linter.unusedSimpArgs false

/-! ### table_Check: function 68 (by hand) -/
/-- May a row be, behind one of a number? -/
def rowOk (p : Option Int) (r : S54) : Bool := taskB r.f0 && ((!r.f1 || r.f0.f2 == r.f0.f3) && (match p with | none => true | some q => decide (q < r.f0.f0)))
def tabGo : Option Int → List S54 → Bool
 | _, [] => true
 | p, r :: rs => rowOk p r && tabGo (some r.f0.f0) rs
/-- May a table be? -/
def tabB (l : List S54) (m : Int) : Bool := tabGo none l && (decide (l.length ≤ 16) && (decide (0 ≤ m) && decide (m < 4)))
def prevI (l : List S54) : Nat → Option Int
 | 0 => none
 | k + 1 => some (rd_T54 l (k : Int)).f0.f0
theorem tabGo_step {l : List S54} {k : Nat} (hk : k < l.length) : tabGo (prevI l k) (l.drop k) = (rowOk (prevI l k) (rd_T54 l (k : Int)) && tabGo (prevI l (k + 1)) (l.drop (k + 1))) := by
 rw [List.drop_eq_getElem_cons hk]
 simp [tabGo, prevI, rd_T54, hk]
theorem tabGo_end (l : List S54) : tabGo (prevI l l.length) (l.drop l.length) = true := by simp [tabGo]
def put6W (w : World) (g : Nat) (r : S54) : World := (((((w.setCell ⟨g, 0, none⟩ (.int .i64 r.f0.f0)).setCell ⟨g, 1, none⟩ (.int .i64 r.f0.f1)).setCell ⟨g, 2, none⟩ (.int .i64 r.f0.f2)).setCell ⟨g, 3, none⟩ (.int .i64 r.f0.f3)).setCell ⟨g, 4, none⟩ (.int .i64 r.f0.f4)).setCell ⟨g, 5, none⟩ (.bool r.f1)
theorem put6W_eq (w : World) (g : Nat) (r : S54) : (((((w.setCell ⟨g, 0, none⟩ (.int .i64 r.f0.f0)).setCell ⟨g, 1, none⟩ (.int .i64 r.f0.f1)).setCell ⟨g, 2, none⟩ (.int .i64 r.f0.f2)).setCell ⟨g, 3, none⟩ (.int .i64 r.f0.f3)).setCell ⟨g, 4, none⟩ (.int .i64 r.f0.f4)).setCell ⟨g, 5, none⟩ (.bool r.f1) = put6W w g r := rfl
theorem put6_at {w : World} {g : Nat} (h : w.heap[g]? = some (.cells #[.int .i64 0, .int .i64 0, .int .i64 0, .int .i64 0, .int .i64 0, .bool false] 54 (0, 0))) (r : S54) : (put6W w g r).heap[g]? = some (.cells #[.int .i64 r.f0.f0, .int .i64 r.f0.f1, .int .i64 r.f0.f2, .int .i64 r.f0.f3, .int .i64 r.f0.f4, .bool r.f1] 54 (0, 0)) :=
 blk_set (blk_set (blk_set (blk_set (blk_set (blk_set h 0 _) 1 _) 2 _) 3 _) 4 _) 5 _
theorem put6_far {w : World} {g b T : Nat} {cs : Array Value} (h : w.heap[b]? = some (.cells cs T (0, 0))) (hne : b ≠ g) (r : S54) : (put6W w g r).heap[b]? = some (.cells cs T (0, 0)) :=
 blk_far (p := ⟨g, 5, none⟩) (blk_far (p := ⟨g, 4, none⟩) (blk_far (p := ⟨g, 3, none⟩) (blk_far (p := ⟨g, 2, none⟩) (blk_far (p := ⟨g, 1, none⟩) (blk_far (p := ⟨g, 0, none⟩) h hne _) hne _) hne _) hne _) hne _) hne _
theorem put6_below {a w : World} {g : Nat} (h : Below a.heap.size a w) (hg : a.heap.size ≤ g) (r : S54) : Below a.heap.size a (put6W w g r) :=
 below_set (below_set (below_set (below_set (below_set (below_set h hg) hg) hg) hg) hg) hg
theorem not_dec {p q : Prop} [Decidable p] [Decidable q] (h : p ↔ ¬ q) : decide p = !decide q := by by_cases hq : q <;> simp [h, hq]
theorem lastD {l : List S54} {x y : S54} {j : Nat} (h1 : taskB x.f0 = true) (h2 : x.f1 = true) (h3 : rd_T54 l (j : Int) = y) (h4 : (x.f0.f2 == x.f0.f3) = true) : rowOk (prevI l (j + 1)) x = !decide (x.f0.f0 ≤ y.f0.f0) := by
 simp only [rowOk, prevI, h1, h2, h3, h4, Bool.true_and, Bool.not_true, Bool.false_or]
 exact not_dec (by omega)
theorem lastF {l : List S54} {x y : S54} {j : Nat} (h1 : taskB x.f0 = true) (h2 : x.f1 = false) (h3 : rd_T54 l (j : Int) = y) : rowOk (prevI l (j + 1)) x = !decide (x.f0.f0 ≤ y.f0.f0) := by
 simp only [rowOk, prevI, h1, h2, h3, Bool.true_and, Bool.not_false, Bool.true_or]
 exact not_dec (by omega)
/-- The first j of n operations have come up. -/
def pre_ (n j : Nat) : Array Bool := (List.replicate j true ++ List.replicate (n - j) false).toArray
theorem pureJ_ {P : Program} {ops : Array Oper} {md : Region.Mode} {S : World → Prop} {Q : Exit → Act → World → Prop} {ds : List Nat} {n i j' : Nat} {N : Option Tmp} {oi : Oper} {v : Value} {fuel : Nat} {a : Act} {w : World} (hi : ops.toList[i]? = some oi) (hN : oi.dst = N) (hc : anyB md ops (pre_ n i) (pre_ n (i + 1)) i = true)
  (hQ : ∀ c a w, Q (.panic c) (a.put oi.dst v) w → Q (.panic c) a w) (hj : i + 1 = j') (hy : Yields P ops oi v a) {a' : Act} (ha : a.put N v = a')
  (h : wpAnyLast P md ops Q S ds fuel (pre_ n j') a' w) : wpAnyLast P md ops Q S ds (fuel + 1) (pre_ n i) a w := by
 subst hj
 exact pure_ (pre_ n (i + 1)) (by rw [← Array.getElem?_toList]; exact hi) hN hc hQ hy ha h
theorem takeJ_ {P : Program} {ops : Array Oper} {md : Region.Mode} {S : World → Prop} {Q : Exit → Act → World → Prop} {ds : List Nat} {n i j' : Nat} {N : Option Tmp} {oi : Oper} {v : Value} {fuel : Nat} {a : Act} {w : World} (hi : ops.toList[i]? = some oi) (hN : oi.dst = N) (hc : takeB md ops ds (pre_ n i) (pre_ n (i + 1)) i = true)
  (hQ : ∀ c a w, Q (.panic c) (a.put oi.dst v) w → Q (.panic c) a w) (hj : i + 1 = j') (hy : YieldsIf P ops S oi v a) (hS : S w) {a' : Act} (ha : a.put N v = a')
  (h : wpAnyLast P md ops Q S ds fuel (pre_ n j') a' w) : wpAnyLast P md ops Q S ds (fuel + 1) (pre_ n i) a w := by
 subst hj
 exact take_ (pre_ n (i + 1)) (by rw [← Array.getElem?_toList]; exact hi) hN hc hQ hy hS ha h
-- param_Check param_Row
def table_Check.f (l0_0 : List S54) (a0_1 : Int) : Option Bool := some (tabB l0_0 a0_1)
def table_Check.T4 : Bool × List (List Nat × List Nat) := (true, [([], []), ([0], [0]), ([1], [1]), ([2], [2]), ([3, 2], [3]), ([4], [4]), ([5, 4], [4, 5]), ([6, 4, 4], [4, 6]), ([7], [7]), ([8, 7], [7, 8]), ([9, 7], [7, 9]), ([7], [7]), ([11, 7], [7, 11]), ([12, 7], [7, 12]), ([10, 13, 7], [7, 10, 13]), ([7, 14, 4], [4, 7, 14]), ([4, 15], [4, 15]), ([16, 7], [16]), ([17], [17]), ([18, 17], [17, 18]), ([19, 17, 17], [17, 19]), ([20], [20]), ([21, 20], [20, 21]), ([20], [20]), ([23, 20], [20, 23]), ([22, 24, 20], [20, 22, 24]), ([25, 20], [20, 25]), ([26, 20], [20, 26]), ([27, 20], [20, 27]), ([20], [20]), ([29, 20], [20, 29]), ([30, 20], [20, 30]), ([28, 31, 20], [20, 28, 31]), ([20, 32, 17], [17, 20, 32]), ([17, 33], [17, 33])])
def table_Check.B4 : List Nat := [0, 1, 3, 7, 15, 31, 63, 127, 255, 511, 1023, 255, 2303, 6399, 16383, 32767, 65535, 131071, 262143, 524287, 1048575, 2097151, 4194303, 2097151, 10485759, 33554431, 67108863, 134217727, 268435455, 2097151, 538968063, 1612709887, 4294967295, 8589934591, 17179869183]
theorem table_Check.tab4 : rtab .any (opsOf Try.f68 4) = table_Check.T4 := by kernel_rfl
theorem table_Check.bits4 : waitsOk table_Check.T4.2 table_Check.B4 = true := by kernel_rfl
set_option maxHeartbeats 16000000 in
set_option maxRecDepth 100000 in
theorem table_Check.calls (A0_0 : Option Addr) (c0_0 : Nat) (l0_0 : List S54) (a0_1 : Int) (r : Bool) (w : World) (hr0_0 : Kd.C k54 w A0_0 l0_0.length l0_0) (hc0_0 : l0_0.length ≤ c0_0) (h : table_Check.f l0_0 a0_1 = some r) :
  Calls Try.prog 68 #[.agg #[.slice A0_0 l0_0.length c0_0, .int .i64 a0_1]] w fun e w' => e = .returned (.bool r) ∧ Below w.heap.size w w' := by
 have hu52 := Try.underlying52
 have hu54 := Try.underlying54
 have hu28 := Try.underlying28
 have hmax : l0_0.length ≤ 9223372036854775807 := Kd.C_max hr0_0
 have HR0 := Aside0.mk hr0_0
 have HC0 := Aside0.mk hc0_0
 clear hr0_0 hc0_0
 obtain rfl := Option.some.inj h
 clear h
 have HB := Aside0.mk (Below.refl w.heap.size w)
 go_enter Try.func68, Try.ntmps68
 go_wp2_with ((with_reducible refine gate_dst (N := 1) rfl ?_); refine box_event ?hg (N := 1) ?hd (cs := #[.slice A0_0 l0_0.length c0_0, .int .i64 a0_1]) (t := 52) ?hr ?_; (case hd => rfl); (case hg => rfl); (case hr => first | (go_simp; done) | (go_simp; rfl)); intro gt hg w2 hbox hb; have n0_ := Aside0.mk (below_step HB.out hb); have BK := Aside0.mk hbox; have GE := Aside0.mk (show w.heap.size ≤ gt by rw [hg]; exact Nat.le_refl _); clear HB; have HB := n0_; clear n0_; clear hb hbox hg; have hcz0 : w2.cell? ⟨gt, 0, none⟩ = some (.slice A0_0 l0_0.length c0_0) := (blk_cell BK.out 0).trans rfl; have hcz1 : w2.cell? ⟨gt, 1, none⟩ = some (.int .i64 a0_1) := (blk_cell BK.out 1).trans rfl)
 go_loopw [8] (fun v8 wr => ∃ k : Nat, k ≤ l0_0.length ∧ v8 = .int .i64 k ∧ Aside0 (tabGo none l0_0 = tabGo (prevI l0_0 k) (l0_0.drop k)) ∧ Aside0 (wr.heap[gt]? = some (.cells #[.slice A0_0 l0_0.length c0_0, .int .i64 a0_1] 52 (0, 0))) ∧ Aside0 (Below w.heap.size w wr)) (fun v8 _ => l0_0.length - (intOf v8).toNat)
 case atStart => exact ⟨0, Nat.zero_le _, rfl, ⟨rfl⟩, BK, HB⟩
 case round =>
  try clear hcz0
  try clear hcz1
  clear BK HB
  obtain ⟨k, hk, rfl, HG, BK, HB⟩ := hrel
  have hcz0 : wr.cell? ⟨gt, 0, none⟩ = some (.slice A0_0 l0_0.length c0_0) := (blk_cell BK.out 0).trans rfl
  have hcz1 : wr.cell? ⟨gt, 1, none⟩ = some (.int .i64 a0_1) := (blk_cell BK.out 1).trans rfl
  by_cases hlt : k < l0_0.length
  ·have p0 : (0 : Int) ≤ (k : Int) := by omega
   have q0 : (k : Int) < (l0_0.length : Int) := by omega
   obtain ⟨ad, e0, hx0, hx1, hx2, hx3, hx4, hx5⟩ := at_T54 HR0.out k p0 q0
   cases e0
   replace hx0 := (HB.out.cell (World.block_lt_of_cell? w _ hx0)).trans hx0
   replace hx1 := (HB.out.cell (World.block_lt_of_cell? w _ hx1)).trans hx1
   replace hx2 := (HB.out.cell (World.block_lt_of_cell? w _ hx2)).trans hx2
   replace hx3 := (HB.out.cell (World.block_lt_of_cell? w _ hx3)).trans hx3
   replace hx4 := (HB.out.cell (World.block_lt_of_cell? w _ hx4)).trans hx4
   replace hx5 := (HB.out.cell (World.block_lt_of_cell? w _ hx5)).trans hx5
   simp only [Int.toNat_natCast] at hx0 hx1 hx2 hx3 hx4 hx5
   have HS := Aside0.mk (tabGo_step hlt)
   obtain ⟨x, hx⟩ : ∃ x, rd_T54 l0_0 (k : Int) = x := ⟨_, rfl⟩
   rw [hx] at hx0 hx1 hx2 hx3 hx4 hx5 HS
   have HX := Aside0.mk hx
   clear hx
   go_upto_region 4 with ((with_reducible refine gate_dst (N := 4) rfl ?_); refine box_event ?hg (N := 4) ?hd (cs := #[.int .i64 0, .int .i64 0, .int .i64 0, .int .i64 0, .int .i64 0, .bool false]) (t := 54) ?hr ?_; (case hd => rfl); (case hg => rfl); (case hr => first | (go_simp; done) | (go_simp; rfl)); intro g4 hg w8 hbox hb; have n0_ := Aside0.mk (blk_below BK.out hb); have n1_ := Aside0.mk (below_step HB.out hb); have B4 := Aside0.mk hbox; have G4 := Aside0.mk (show w.heap.size ≤ g4 by rw [hg]; exact below_size HB.out); have N4 := Aside0.mk (show gt ≠ g4 by rw [hg]; exact Nat.ne_of_lt (blk_lt BK.out)); clear BK HB hcz0 hcz1; have BK := n0_; have HB := n1_; clear n0_ n1_; clear hb hbox hg; have hnb := N4.out; have hnc := Ne.symm N4.out; have z0 : w8.cell? ⟨g4, 0, none⟩ = some (.int .i64 0) := (blk_cell B4.out 0).trans rfl; have z1 : w8.cell? ⟨g4, 1, none⟩ = some (.int .i64 0) := (blk_cell B4.out 1).trans rfl; have z2 : w8.cell? ⟨g4, 2, none⟩ = some (.int .i64 0) := (blk_cell B4.out 2).trans rfl; have z3 : w8.cell? ⟨g4, 3, none⟩ = some (.int .i64 0) := (blk_cell B4.out 3).trans rfl; have z4 : w8.cell? ⟨g4, 4, none⟩ = some (.int .i64 0) := (blk_cell B4.out 4).trans rfl; have z5 : w8.cell? ⟨g4, 5, none⟩ = some (.bool false) := (blk_cell B4.out 5).trans rfl; have y0 := blk_frozen B4.out 0; have y1 := blk_frozen B4.out 1; have y2 := blk_frozen B4.out 2; have y3 := blk_frozen B4.out 3; have y4 := blk_frozen B4.out 4; have y5 := blk_frozen B4.out 5)
   (try simp only [Act.put, List.setIfInBounds_toArray, List.set_cons_zero, List.set_cons_succ])
   rw [put6W_eq w8 g4 x]
   have n0_ := Aside0.mk (put6_far BK.out N4.out x)
   have n1_ := Aside0.mk (put6_at B4.out x)
   have n2_ := Aside0.mk (put6_below HB.out G4.out x)
   clear BK B4 HB hx0 hx1 hx2 hx3 hx4 hx5 z0 z1 z2 z3 z4 z5 y0 y1 y2 y3 y4 y5 hnb hnc
   have BK := n0_
   have B4 := n1_
   have HB := n2_
   clear n0_ n1_ n2_
   generalize put6W w8 g4 x = W at BK B4 HB ⊢
   have t0 : W.cell? ⟨gt, 0, none⟩ = some (.slice (some ad) l0_0.length c0_0) := (blk_cell BK.out 0).trans rfl
   have s0 : W.cell? ⟨g4, 0, none⟩ = some (.int .i64 x.f0.f0) := (blk_cell B4.out 0).trans rfl
   have s1 : W.cell? ⟨g4, 1, none⟩ = some (.int .i64 x.f0.f1) := (blk_cell B4.out 1).trans rfl
   have s2 : W.cell? ⟨g4, 2, none⟩ = some (.int .i64 x.f0.f2) := (blk_cell B4.out 2).trans rfl
   have s3 : W.cell? ⟨g4, 3, none⟩ = some (.int .i64 x.f0.f3) := (blk_cell B4.out 3).trans rfl
   have s4 : W.cell? ⟨g4, 4, none⟩ = some (.int .i64 x.f0.f4) := (blk_cell B4.out 4).trans rfl
   have s5 : W.cell? ⟨g4, 5, none⟩ = some (.bool x.f1) := (blk_cell B4.out 5).trans rfl
   have HCK := Aside0.mk (check_eq x.f0)
   go_cut [47] (fun v47 wc => ∃ b : Bool, v47 = .bool b ∧ Aside0 (rowOk (prevI l0_0 k) x = !b) ∧ Aside0 (wc.heap[gt]? = some (.cells #[.slice (some ad) l0_0.length c0_0, .int .i64 a0_1] 52 (0, 0))) ∧ Aside0 (Below w.heap.size w wc))
   case first =>
    obtain ⟨sv, hsv⟩ : ∃ sv, x.f1 = sv := ⟨_, rfl⟩
    rw [hsv] at s5 B4
    have HSV := Aside0.mk hsv
    clear hsv
    cases hb1 : taskB x.f0 with
    | false =>
     rw [hb1] at HCK
     have HT1 := Aside0.mk hb1
     clear hb1
     refine start_ (n := 35) (S := fun w' => w'.cell? ⟨g4, 0, none⟩ = some (.int .i64 x.f0.f0) ∧ w'.cell? ⟨g4, 1, none⟩ = some (.int .i64 x.f0.f1) ∧ w'.cell? ⟨g4, 2, none⟩ = some (.int .i64 x.f0.f2) ∧ w'.cell? ⟨g4, 3, none⟩ = some (.int .i64 x.f0.f3) ∧ w'.cell? ⟨g4, 4, none⟩ = some (.int .i64 x.f0.f4) ∧ w'.cell? ⟨g4, 5, none⟩ = some (.bool sv) ∧ w'.cell? ⟨gt, 0, none⟩ = some (.slice (some ad) l0_0.length c0_0)) (ds := []) (pre_ 35 0) (by kernel_rfl) rfl rfl ⟨s0, s1, s2, s3, s4, s5, t0⟩ (fun hHeld => ?_); refine with_tabW table_Check.tab4 table_Check.bits4 (fun HT_ HW_ => ?_)
     iterate 2 (first
      | (refine pureJ_ (v := undef) (a' := ?_) rfl rfl (any_of HT_.out (by kernel_rfl)) (fun _ _ _ h => h) (by (try simp only [Nat.reduceAdd]); first | done | rfl) (Or.inr ⟨by rfl, rfl⟩) ?_ ?_; rotate_left; (simp only [Act.put, List.setIfInBounds_toArray, List.set_cons_zero, List.set_cons_succ, i64_w, i32_w]; rfl))
      | (refine pureJ_ (v := ?_) (a' := ?_) rfl rfl (any_of HT_.out (by kernel_rfl)) (fun _ _ _ h => h) (by (try simp only [Nat.reduceAdd]); first | done | rfl) (Or.inl ⟨by rfl, ?_⟩) ?_ ?_; rotate_left; (intro w'; go_simp; with_reducible rfl); rotate_left; (simp only [Act.put, List.setIfInBounds_toArray, List.set_cons_zero, List.set_cons_succ, i64_w, i32_w]; rfl))
      | (refine takeJ_ (v := ?_) (a' := ?_) rfl rfl (take_ofW HT_.out HW_.out (by kernel_rfl)) (fun _ _ _ h => h) (by (try simp only [Nat.reduceAdd]); first | done | rfl) (Or.inl ⟨by rfl, ?_⟩) hHeld ?_ ?_; rotate_left; (rintro w' ⟨s0_, s1_, s2_, s3_, s4_, s5_, s6_⟩; go_simp; with_reducible rfl); rotate_left; (simp only [Act.put, List.setIfInBounds_toArray, List.set_cons_zero, List.set_cons_succ, i64_w, i32_w]; rfl)))
     refine one_ (i := 2) (N := some 15) (pre_ 35 3) rfl rfl (one_of HT_.out (by kernel_rfl)) (by decide) (fun K hK => ?_)
     refine goes_ Try.func14 (by kernel_rfl) rfl #[.agg #[.int .i64 x.f0.f0, .int .i64 x.f0.f1, .int .i64 x.f0.f2, .int .i64 x.f0.f3, .int .i64 x.f0.f4]] (by rfl) rfl rfl (by (try simp only [List.map_toArray, List.map_cons, List.map_nil]); first | done | rfl) ?_
     with_reducible refine (param_Check.calls x.f0.f0 x.f0.f1 x.f0.f2 x.f0.f3 x.f0.f4 _ _ HCK.out).mono ?_
     rintro e w9 ⟨rfl, hb9⟩
     refine ⟨_, rfl, ?_⟩
     have HB9 := Aside0.mk (below_step (below_drew1 HB.out) hb9)
     have BK9 := Aside0.mk (blk_below (blk_drew BK.out) hb9)
     have B9 := Aside0.mk (blk_below (blk_drew B4.out) hb9)
     clear hb9
     refine hK.out _ _ ⟨(blk_cell B9.out 0).trans rfl, (blk_cell B9.out 1).trans rfl, (blk_cell B9.out 2).trans rfl, (blk_cell B9.out 3).trans rfl, (blk_cell B9.out 4).trans rfl, (blk_cell B9.out 5).trans rfl, (blk_cell BK9.out 0).trans rfl⟩ (fun hHeld => ?_)
     clear hK K
     refine norm_ (a' := ?_) ?_ ?_
     rotate_left; (show Act.put _ (some 15) _ = _; simp only [Act.put, List.setIfInBounds_toArray, List.set_cons_zero, List.set_cons_succ, i64_w, i32_w]; rfl)
     iterate 32 (first
      | (refine pureJ_ (v := undef) (a' := ?_) rfl rfl (any_of HT_.out (by kernel_rfl)) (fun _ _ _ h => h) (by (try simp only [Nat.reduceAdd]); first | done | rfl) (Or.inr ⟨by rfl, rfl⟩) ?_ ?_; rotate_left; (simp only [Act.put, List.setIfInBounds_toArray, List.set_cons_zero, List.set_cons_succ, i64_w, i32_w]; rfl))
      | (refine pureJ_ (v := ?_) (a' := ?_) rfl rfl (any_of HT_.out (by kernel_rfl)) (fun _ _ _ h => h) (by (try simp only [Nat.reduceAdd]); first | done | rfl) (Or.inl ⟨by rfl, ?_⟩) ?_ ?_; rotate_left; (intro w'; go_simp; with_reducible rfl); rotate_left; (simp only [Act.put, List.setIfInBounds_toArray, List.set_cons_zero, List.set_cons_succ, i64_w, i32_w]; rfl))
      | (refine takeJ_ (v := ?_) (a' := ?_) rfl rfl (take_ofW HT_.out HW_.out (by kernel_rfl)) (fun _ _ _ h => h) (by (try simp only [Nat.reduceAdd]); first | done | rfl) (Or.inl ⟨by rfl, ?_⟩) hHeld ?_ ?_; rotate_left; (rintro w' ⟨s0_, s1_, s2_, s3_, s4_, s5_, s6_⟩; go_simp; with_reducible rfl); rotate_left; (simp only [Act.put, List.setIfInBounds_toArray, List.set_cons_zero, List.set_cons_succ, i64_w, i32_w]; rfl)))
     refine done_ (done_of HT_.out (by kernel_rfl)) ?_
     try go_wp2
     go_meet
     case rel => exact ⟨_, rfl, ⟨by simp [rowOk, HT1.out]⟩, BK9, HB9⟩
    | true =>
     rw [hb1] at HCK
     have HT1 := Aside0.mk hb1
     clear hb1
     cases sv with
     | true =>
      by_cases hD : x.f0.f2 = x.f0.f3
      ·have hd1 : (x.f0.f2 != x.f0.f3) = false := bne_eq_false_iff_eq.mpr hD
       have hd0 : (x.f0.f2 == x.f0.f3) = true := beq_iff_eq.mpr hD
       have HD := Aside0.mk hD
       clear hD
       cases k with
       | zero =>
        have hk0 : decide ((0 : Int) < ((0 : Nat) : Int)) = false := rfl
        refine start_ (n := 35) (S := fun w' => w'.cell? ⟨g4, 0, none⟩ = some (.int .i64 x.f0.f0) ∧ w'.cell? ⟨g4, 1, none⟩ = some (.int .i64 x.f0.f1) ∧ w'.cell? ⟨g4, 2, none⟩ = some (.int .i64 x.f0.f2) ∧ w'.cell? ⟨g4, 3, none⟩ = some (.int .i64 x.f0.f3) ∧ w'.cell? ⟨g4, 4, none⟩ = some (.int .i64 x.f0.f4) ∧ w'.cell? ⟨g4, 5, none⟩ = some (.bool true) ∧ w'.cell? ⟨gt, 0, none⟩ = some (.slice (some ad) l0_0.length c0_0)) (ds := []) (pre_ 35 0) (by kernel_rfl) rfl rfl ⟨s0, s1, s2, s3, s4, s5, t0⟩ (fun hHeld => ?_); refine with_tabW table_Check.tab4 table_Check.bits4 (fun HT_ HW_ => ?_)
        iterate 2 (first
         | (refine pureJ_ (v := undef) (a' := ?_) rfl rfl (any_of HT_.out (by kernel_rfl)) (fun _ _ _ h => h) (by (try simp only [Nat.reduceAdd]); first | done | rfl) (Or.inr ⟨by rfl, rfl⟩) ?_ ?_; rotate_left; (simp only [Act.put, List.setIfInBounds_toArray, List.set_cons_zero, List.set_cons_succ, i64_w, i32_w]; rfl))
         | (refine pureJ_ (v := ?_) (a' := ?_) rfl rfl (any_of HT_.out (by kernel_rfl)) (fun _ _ _ h => h) (by (try simp only [Nat.reduceAdd]); first | done | rfl) (Or.inl ⟨by rfl, ?_⟩) ?_ ?_; rotate_left; (intro w'; go_simp; with_reducible rfl); rotate_left; (simp only [Act.put, List.setIfInBounds_toArray, List.set_cons_zero, List.set_cons_succ, i64_w, i32_w]; rfl))
         | (refine takeJ_ (v := ?_) (a' := ?_) rfl rfl (take_ofW HT_.out HW_.out (by kernel_rfl)) (fun _ _ _ h => h) (by (try simp only [Nat.reduceAdd]); first | done | rfl) (Or.inl ⟨by rfl, ?_⟩) hHeld ?_ ?_; rotate_left; (rintro w' ⟨s0_, s1_, s2_, s3_, s4_, s5_, s6_⟩; go_simp; with_reducible rfl); rotate_left; (simp only [Act.put, List.setIfInBounds_toArray, List.set_cons_zero, List.set_cons_succ, i64_w, i32_w]; rfl)))
        refine one_ (i := 2) (N := some 15) (pre_ 35 3) rfl rfl (one_of HT_.out (by kernel_rfl)) (by decide) (fun K hK => ?_)
        refine goes_ Try.func14 (by kernel_rfl) rfl #[.agg #[.int .i64 x.f0.f0, .int .i64 x.f0.f1, .int .i64 x.f0.f2, .int .i64 x.f0.f3, .int .i64 x.f0.f4]] (by rfl) rfl rfl (by (try simp only [List.map_toArray, List.map_cons, List.map_nil]); first | done | rfl) ?_
        with_reducible refine (param_Check.calls x.f0.f0 x.f0.f1 x.f0.f2 x.f0.f3 x.f0.f4 _ _ HCK.out).mono ?_
        rintro e w9 ⟨rfl, hb9⟩
        refine ⟨_, rfl, ?_⟩
        have HB9 := Aside0.mk (below_step (below_drew1 HB.out) hb9)
        have BK9 := Aside0.mk (blk_below (blk_drew BK.out) hb9)
        have B9 := Aside0.mk (blk_below (blk_drew B4.out) hb9)
        clear hb9
        refine hK.out _ _ ⟨(blk_cell B9.out 0).trans rfl, (blk_cell B9.out 1).trans rfl, (blk_cell B9.out 2).trans rfl, (blk_cell B9.out 3).trans rfl, (blk_cell B9.out 4).trans rfl, (blk_cell B9.out 5).trans rfl, (blk_cell BK9.out 0).trans rfl⟩ (fun hHeld => ?_)
        clear hK K
        refine norm_ (a' := ?_) ?_ ?_
        rotate_left; (show Act.put _ (some 15) _ = _; simp only [Act.put, List.setIfInBounds_toArray, List.set_cons_zero, List.set_cons_succ, i64_w, i32_w]; rfl)
        iterate 32 (first
         | (refine pureJ_ (v := undef) (a' := ?_) rfl rfl (any_of HT_.out (by kernel_rfl)) (fun _ _ _ h => h) (by (try simp only [Nat.reduceAdd]); first | done | rfl) (Or.inr ⟨by rfl, rfl⟩) ?_ ?_; rotate_left; (simp only [Act.put, List.setIfInBounds_toArray, List.set_cons_zero, List.set_cons_succ, i64_w, i32_w]; rfl))
         | (refine pureJ_ (v := ?_) (a' := ?_) rfl rfl (any_of HT_.out (by kernel_rfl)) (fun _ _ _ h => h) (by (try simp only [Nat.reduceAdd]); first | done | rfl) (Or.inl ⟨by rfl, ?_⟩) ?_ ?_; rotate_left; (intro w'; go_simp; with_reducible rfl); rotate_left; (simp only [Act.put, List.setIfInBounds_toArray, List.set_cons_zero, List.set_cons_succ, i64_w, i32_w]; rfl))
         | (refine takeJ_ (v := ?_) (a' := ?_) rfl rfl (take_ofW HT_.out HW_.out (by kernel_rfl)) (fun _ _ _ h => h) (by (try simp only [Nat.reduceAdd]); first | done | rfl) (Or.inl ⟨by rfl, ?_⟩) hHeld ?_ ?_; rotate_left; (rintro w' ⟨s0_, s1_, s2_, s3_, s4_, s5_, s6_⟩; go_simp; with_reducible rfl); rotate_left; (simp only [Act.put, List.setIfInBounds_toArray, List.set_cons_zero, List.set_cons_succ, i64_w, i32_w]; rfl)))
        refine done_ (done_of HT_.out (by kernel_rfl)) ?_
        try go_wp2
        go_meet
        case rel => exact ⟨_, rfl, ⟨by simp [rowOk, prevI, HT1.out, HSV.out, HD.out]⟩, BK9, HB9⟩
       | succ j =>
        have hj0 : (0 : Int) ≤ (j : Int) := by omega
        have hj1 : (j : Int) < (l0_0.length : Int) := by omega
        have hjw : wrap64 (j : Int) = (j : Int) := by unfold wrap64; omega
        have hk0 : decide ((0 : Int) < ((j + 1 : Nat) : Int)) = true := decide_eq_true (by omega)
        obtain ⟨ad_, e0, hy0, hy1, hy2, hy3, hy4, hy5⟩ := at_T54 HR0.out j hj0 hj1
        obtain rfl : ad = ad_ := (by injection e0)
        simp only [Int.toNat_natCast] at hy0
        clear hy1 hy2 hy3 hy4 hy5
        have c0 := (HB.out.cell (World.block_lt_of_cell? w _ hy0)).trans hy0
        obtain ⟨y, hy⟩ : ∃ y, rd_T54 l0_0 (j : Int) = y := ⟨_, rfl⟩
        rw [hy] at hy0 c0
        have HY := Aside0.mk hy
        clear hy
        have hjt : (j : Int).toNat = j := Int.toNat_natCast j
        refine start_ (n := 35) (S := fun w' => w'.cell? ⟨g4, 0, none⟩ = some (.int .i64 x.f0.f0) ∧ w'.cell? ⟨g4, 1, none⟩ = some (.int .i64 x.f0.f1) ∧ w'.cell? ⟨g4, 2, none⟩ = some (.int .i64 x.f0.f2) ∧ w'.cell? ⟨g4, 3, none⟩ = some (.int .i64 x.f0.f3) ∧ w'.cell? ⟨g4, 4, none⟩ = some (.int .i64 x.f0.f4) ∧ w'.cell? ⟨g4, 5, none⟩ = some (.bool true) ∧ w'.cell? ⟨gt, 0, none⟩ = some (.slice (some ad) l0_0.length c0_0) ∧ w'.cell? (ad.add (j * 6)) = some (.int .i64 y.f0.f0)) (ds := []) (pre_ 35 0) (by kernel_rfl) rfl rfl ⟨s0, s1, s2, s3, s4, s5, t0, c0⟩ (fun hHeld => ?_); refine with_tabW table_Check.tab4 table_Check.bits4 (fun HT_ HW_ => ?_)
        iterate 2 (first
         | (refine pureJ_ (v := undef) (a' := ?_) rfl rfl (any_of HT_.out (by kernel_rfl)) (fun _ _ _ h => h) (by (try simp only [Nat.reduceAdd]); first | done | rfl) (Or.inr ⟨by rfl, rfl⟩) ?_ ?_; rotate_left; (simp only [Act.put, List.setIfInBounds_toArray, List.set_cons_zero, List.set_cons_succ, i64_w, i32_w]; rfl))
         | (refine pureJ_ (v := ?_) (a' := ?_) rfl rfl (any_of HT_.out (by kernel_rfl)) (fun _ _ _ h => h) (by (try simp only [Nat.reduceAdd]); first | done | rfl) (Or.inl ⟨by rfl, ?_⟩) ?_ ?_; rotate_left; (intro w'; go_simp; with_reducible rfl); rotate_left; (simp only [Act.put, List.setIfInBounds_toArray, List.set_cons_zero, List.set_cons_succ, i64_w, i32_w]; rfl))
         | (refine takeJ_ (v := ?_) (a' := ?_) rfl rfl (take_ofW HT_.out HW_.out (by kernel_rfl)) (fun _ _ _ h => h) (by (try simp only [Nat.reduceAdd]); first | done | rfl) (Or.inl ⟨by rfl, ?_⟩) hHeld ?_ ?_; rotate_left; (rintro w' ⟨s0_, s1_, s2_, s3_, s4_, s5_, s6_, s7_⟩; go_simp; with_reducible rfl); rotate_left; (simp only [Act.put, List.setIfInBounds_toArray, List.set_cons_zero, List.set_cons_succ, i64_w, i32_w]; rfl)))
        refine one_ (i := 2) (N := some 15) (pre_ 35 3) rfl rfl (one_of HT_.out (by kernel_rfl)) (by decide) (fun K hK => ?_)
        refine goes_ Try.func14 (by kernel_rfl) rfl #[.agg #[.int .i64 x.f0.f0, .int .i64 x.f0.f1, .int .i64 x.f0.f2, .int .i64 x.f0.f3, .int .i64 x.f0.f4]] (by rfl) rfl rfl (by (try simp only [List.map_toArray, List.map_cons, List.map_nil]); first | done | rfl) ?_
        with_reducible refine (param_Check.calls x.f0.f0 x.f0.f1 x.f0.f2 x.f0.f3 x.f0.f4 _ _ HCK.out).mono ?_
        rintro e w9 ⟨rfl, hb9⟩
        refine ⟨_, rfl, ?_⟩
        have HB9 := Aside0.mk (below_step (below_drew1 HB.out) hb9)
        have BK9 := Aside0.mk (blk_below (blk_drew BK.out) hb9)
        have B9 := Aside0.mk (blk_below (blk_drew B4.out) hb9)
        clear hb9
        refine hK.out _ _ ⟨(blk_cell B9.out 0).trans rfl, (blk_cell B9.out 1).trans rfl, (blk_cell B9.out 2).trans rfl, (blk_cell B9.out 3).trans rfl, (blk_cell B9.out 4).trans rfl, (blk_cell B9.out 5).trans rfl, (blk_cell BK9.out 0).trans rfl, (HB9.out.cell (World.block_lt_of_cell? w _ hy0)).trans hy0⟩ (fun hHeld => ?_)
        clear hK K
        refine norm_ (a' := ?_) ?_ ?_
        rotate_left; (show Act.put _ (some 15) _ = _; simp only [Act.put, List.setIfInBounds_toArray, List.set_cons_zero, List.set_cons_succ, i64_w, i32_w]; rfl)
        iterate 32 (first
         | (refine pureJ_ (v := undef) (a' := ?_) rfl rfl (any_of HT_.out (by kernel_rfl)) (fun _ _ _ h => h) (by (try simp only [Nat.reduceAdd]); first | done | rfl) (Or.inr ⟨by rfl, rfl⟩) ?_ ?_; rotate_left; (simp only [Act.put, List.setIfInBounds_toArray, List.set_cons_zero, List.set_cons_succ, i64_w, i32_w]; rfl))
         | (refine pureJ_ (v := ?_) (a' := ?_) rfl rfl (any_of HT_.out (by kernel_rfl)) (fun _ _ _ h => h) (by (try simp only [Nat.reduceAdd]); first | done | rfl) (Or.inl ⟨by rfl, ?_⟩) ?_ ?_; rotate_left; (intro w'; go_simp; with_reducible rfl); rotate_left; (simp only [Act.put, List.setIfInBounds_toArray, List.set_cons_zero, List.set_cons_succ, i64_w, i32_w]; rfl))
         | (refine takeJ_ (v := ?_) (a' := ?_) rfl rfl (take_ofW HT_.out HW_.out (by kernel_rfl)) (fun _ _ _ h => h) (by (try simp only [Nat.reduceAdd]); first | done | rfl) (Or.inl ⟨by rfl, ?_⟩) hHeld ?_ ?_; rotate_left; (rintro w' ⟨s0_, s1_, s2_, s3_, s4_, s5_, s6_, s7_⟩; go_simp; with_reducible rfl); rotate_left; (simp only [Act.put, List.setIfInBounds_toArray, List.set_cons_zero, List.set_cons_succ, i64_w, i32_w]; rfl)))
        refine done_ (done_of HT_.out (by kernel_rfl)) ?_
        try go_wp2
        go_meet
        case rel => exact ⟨_, rfl, ⟨lastD HT1.out HSV.out HY.out hd0⟩, BK9, HB9⟩
      ·have hd1 : (x.f0.f2 != x.f0.f3) = true := bne_iff_ne.mpr hD
       have hd0 : (x.f0.f2 == x.f0.f3) = false := beq_eq_false_iff_ne.mpr hD
       have HD := Aside0.mk hD
       clear hD
       refine start_ (n := 35) (S := fun w' => w'.cell? ⟨g4, 0, none⟩ = some (.int .i64 x.f0.f0) ∧ w'.cell? ⟨g4, 1, none⟩ = some (.int .i64 x.f0.f1) ∧ w'.cell? ⟨g4, 2, none⟩ = some (.int .i64 x.f0.f2) ∧ w'.cell? ⟨g4, 3, none⟩ = some (.int .i64 x.f0.f3) ∧ w'.cell? ⟨g4, 4, none⟩ = some (.int .i64 x.f0.f4) ∧ w'.cell? ⟨g4, 5, none⟩ = some (.bool true) ∧ w'.cell? ⟨gt, 0, none⟩ = some (.slice (some ad) l0_0.length c0_0)) (ds := []) (pre_ 35 0) (by kernel_rfl) rfl rfl ⟨s0, s1, s2, s3, s4, s5, t0⟩ (fun hHeld => ?_); refine with_tabW table_Check.tab4 table_Check.bits4 (fun HT_ HW_ => ?_)
       iterate 2 (first
        | (refine pureJ_ (v := undef) (a' := ?_) rfl rfl (any_of HT_.out (by kernel_rfl)) (fun _ _ _ h => h) (by (try simp only [Nat.reduceAdd]); first | done | rfl) (Or.inr ⟨by rfl, rfl⟩) ?_ ?_; rotate_left; (simp only [Act.put, List.setIfInBounds_toArray, List.set_cons_zero, List.set_cons_succ, i64_w, i32_w]; rfl))
        | (refine pureJ_ (v := ?_) (a' := ?_) rfl rfl (any_of HT_.out (by kernel_rfl)) (fun _ _ _ h => h) (by (try simp only [Nat.reduceAdd]); first | done | rfl) (Or.inl ⟨by rfl, ?_⟩) ?_ ?_; rotate_left; (intro w'; go_simp; with_reducible rfl); rotate_left; (simp only [Act.put, List.setIfInBounds_toArray, List.set_cons_zero, List.set_cons_succ, i64_w, i32_w]; rfl))
        | (refine takeJ_ (v := ?_) (a' := ?_) rfl rfl (take_ofW HT_.out HW_.out (by kernel_rfl)) (fun _ _ _ h => h) (by (try simp only [Nat.reduceAdd]); first | done | rfl) (Or.inl ⟨by rfl, ?_⟩) hHeld ?_ ?_; rotate_left; (rintro w' ⟨s0_, s1_, s2_, s3_, s4_, s5_, s6_⟩; go_simp; with_reducible rfl); rotate_left; (simp only [Act.put, List.setIfInBounds_toArray, List.set_cons_zero, List.set_cons_succ, i64_w, i32_w]; rfl)))
       refine one_ (i := 2) (N := some 15) (pre_ 35 3) rfl rfl (one_of HT_.out (by kernel_rfl)) (by decide) (fun K hK => ?_)
       refine goes_ Try.func14 (by kernel_rfl) rfl #[.agg #[.int .i64 x.f0.f0, .int .i64 x.f0.f1, .int .i64 x.f0.f2, .int .i64 x.f0.f3, .int .i64 x.f0.f4]] (by rfl) rfl rfl (by (try simp only [List.map_toArray, List.map_cons, List.map_nil]); first | done | rfl) ?_
       with_reducible refine (param_Check.calls x.f0.f0 x.f0.f1 x.f0.f2 x.f0.f3 x.f0.f4 _ _ HCK.out).mono ?_
       rintro e w9 ⟨rfl, hb9⟩
       refine ⟨_, rfl, ?_⟩
       have HB9 := Aside0.mk (below_step (below_drew1 HB.out) hb9)
       have BK9 := Aside0.mk (blk_below (blk_drew BK.out) hb9)
       have B9 := Aside0.mk (blk_below (blk_drew B4.out) hb9)
       clear hb9
       refine hK.out _ _ ⟨(blk_cell B9.out 0).trans rfl, (blk_cell B9.out 1).trans rfl, (blk_cell B9.out 2).trans rfl, (blk_cell B9.out 3).trans rfl, (blk_cell B9.out 4).trans rfl, (blk_cell B9.out 5).trans rfl, (blk_cell BK9.out 0).trans rfl⟩ (fun hHeld => ?_)
       clear hK K
       refine norm_ (a' := ?_) ?_ ?_
       rotate_left; (show Act.put _ (some 15) _ = _; simp only [Act.put, List.setIfInBounds_toArray, List.set_cons_zero, List.set_cons_succ, i64_w, i32_w]; rfl)
       iterate 32 (first
        | (refine pureJ_ (v := undef) (a' := ?_) rfl rfl (any_of HT_.out (by kernel_rfl)) (fun _ _ _ h => h) (by (try simp only [Nat.reduceAdd]); first | done | rfl) (Or.inr ⟨by rfl, rfl⟩) ?_ ?_; rotate_left; (simp only [Act.put, List.setIfInBounds_toArray, List.set_cons_zero, List.set_cons_succ, i64_w, i32_w]; rfl))
        | (refine pureJ_ (v := ?_) (a' := ?_) rfl rfl (any_of HT_.out (by kernel_rfl)) (fun _ _ _ h => h) (by (try simp only [Nat.reduceAdd]); first | done | rfl) (Or.inl ⟨by rfl, ?_⟩) ?_ ?_; rotate_left; (intro w'; go_simp; with_reducible rfl); rotate_left; (simp only [Act.put, List.setIfInBounds_toArray, List.set_cons_zero, List.set_cons_succ, i64_w, i32_w]; rfl))
        | (refine takeJ_ (v := ?_) (a' := ?_) rfl rfl (take_ofW HT_.out HW_.out (by kernel_rfl)) (fun _ _ _ h => h) (by (try simp only [Nat.reduceAdd]); first | done | rfl) (Or.inl ⟨by rfl, ?_⟩) hHeld ?_ ?_; rotate_left; (rintro w' ⟨s0_, s1_, s2_, s3_, s4_, s5_, s6_⟩; go_simp; with_reducible rfl); rotate_left; (simp only [Act.put, List.setIfInBounds_toArray, List.set_cons_zero, List.set_cons_succ, i64_w, i32_w]; rfl)))
       refine done_ (done_of HT_.out (by kernel_rfl)) ?_
       try go_wp2
       go_meet
       case rel => exact ⟨_, rfl, ⟨by simp [rowOk, HT1.out, HSV.out, HD.out]⟩, BK9, HB9⟩
     | false =>
      cases k with
      | zero =>
       have hk0 : decide ((0 : Int) < ((0 : Nat) : Int)) = false := rfl
       refine start_ (n := 35) (S := fun w' => w'.cell? ⟨g4, 0, none⟩ = some (.int .i64 x.f0.f0) ∧ w'.cell? ⟨g4, 1, none⟩ = some (.int .i64 x.f0.f1) ∧ w'.cell? ⟨g4, 2, none⟩ = some (.int .i64 x.f0.f2) ∧ w'.cell? ⟨g4, 3, none⟩ = some (.int .i64 x.f0.f3) ∧ w'.cell? ⟨g4, 4, none⟩ = some (.int .i64 x.f0.f4) ∧ w'.cell? ⟨g4, 5, none⟩ = some (.bool false) ∧ w'.cell? ⟨gt, 0, none⟩ = some (.slice (some ad) l0_0.length c0_0)) (ds := []) (pre_ 35 0) (by kernel_rfl) rfl rfl ⟨s0, s1, s2, s3, s4, s5, t0⟩ (fun hHeld => ?_); refine with_tabW table_Check.tab4 table_Check.bits4 (fun HT_ HW_ => ?_)
       iterate 2 (first
        | (refine pureJ_ (v := undef) (a' := ?_) rfl rfl (any_of HT_.out (by kernel_rfl)) (fun _ _ _ h => h) (by (try simp only [Nat.reduceAdd]); first | done | rfl) (Or.inr ⟨by rfl, rfl⟩) ?_ ?_; rotate_left; (simp only [Act.put, List.setIfInBounds_toArray, List.set_cons_zero, List.set_cons_succ, i64_w, i32_w]; rfl))
        | (refine pureJ_ (v := ?_) (a' := ?_) rfl rfl (any_of HT_.out (by kernel_rfl)) (fun _ _ _ h => h) (by (try simp only [Nat.reduceAdd]); first | done | rfl) (Or.inl ⟨by rfl, ?_⟩) ?_ ?_; rotate_left; (intro w'; go_simp; with_reducible rfl); rotate_left; (simp only [Act.put, List.setIfInBounds_toArray, List.set_cons_zero, List.set_cons_succ, i64_w, i32_w]; rfl))
        | (refine takeJ_ (v := ?_) (a' := ?_) rfl rfl (take_ofW HT_.out HW_.out (by kernel_rfl)) (fun _ _ _ h => h) (by (try simp only [Nat.reduceAdd]); first | done | rfl) (Or.inl ⟨by rfl, ?_⟩) hHeld ?_ ?_; rotate_left; (rintro w' ⟨s0_, s1_, s2_, s3_, s4_, s5_, s6_⟩; go_simp; with_reducible rfl); rotate_left; (simp only [Act.put, List.setIfInBounds_toArray, List.set_cons_zero, List.set_cons_succ, i64_w, i32_w]; rfl)))
       refine one_ (i := 2) (N := some 15) (pre_ 35 3) rfl rfl (one_of HT_.out (by kernel_rfl)) (by decide) (fun K hK => ?_)
       refine goes_ Try.func14 (by kernel_rfl) rfl #[.agg #[.int .i64 x.f0.f0, .int .i64 x.f0.f1, .int .i64 x.f0.f2, .int .i64 x.f0.f3, .int .i64 x.f0.f4]] (by rfl) rfl rfl (by (try simp only [List.map_toArray, List.map_cons, List.map_nil]); first | done | rfl) ?_
       with_reducible refine (param_Check.calls x.f0.f0 x.f0.f1 x.f0.f2 x.f0.f3 x.f0.f4 _ _ HCK.out).mono ?_
       rintro e w9 ⟨rfl, hb9⟩
       refine ⟨_, rfl, ?_⟩
       have HB9 := Aside0.mk (below_step (below_drew1 HB.out) hb9)
       have BK9 := Aside0.mk (blk_below (blk_drew BK.out) hb9)
       have B9 := Aside0.mk (blk_below (blk_drew B4.out) hb9)
       clear hb9
       refine hK.out _ _ ⟨(blk_cell B9.out 0).trans rfl, (blk_cell B9.out 1).trans rfl, (blk_cell B9.out 2).trans rfl, (blk_cell B9.out 3).trans rfl, (blk_cell B9.out 4).trans rfl, (blk_cell B9.out 5).trans rfl, (blk_cell BK9.out 0).trans rfl⟩ (fun hHeld => ?_)
       clear hK K
       refine norm_ (a' := ?_) ?_ ?_
       rotate_left; (show Act.put _ (some 15) _ = _; simp only [Act.put, List.setIfInBounds_toArray, List.set_cons_zero, List.set_cons_succ, i64_w, i32_w]; rfl)
       iterate 32 (first
        | (refine pureJ_ (v := undef) (a' := ?_) rfl rfl (any_of HT_.out (by kernel_rfl)) (fun _ _ _ h => h) (by (try simp only [Nat.reduceAdd]); first | done | rfl) (Or.inr ⟨by rfl, rfl⟩) ?_ ?_; rotate_left; (simp only [Act.put, List.setIfInBounds_toArray, List.set_cons_zero, List.set_cons_succ, i64_w, i32_w]; rfl))
        | (refine pureJ_ (v := ?_) (a' := ?_) rfl rfl (any_of HT_.out (by kernel_rfl)) (fun _ _ _ h => h) (by (try simp only [Nat.reduceAdd]); first | done | rfl) (Or.inl ⟨by rfl, ?_⟩) ?_ ?_; rotate_left; (intro w'; go_simp; with_reducible rfl); rotate_left; (simp only [Act.put, List.setIfInBounds_toArray, List.set_cons_zero, List.set_cons_succ, i64_w, i32_w]; rfl))
        | (refine takeJ_ (v := ?_) (a' := ?_) rfl rfl (take_ofW HT_.out HW_.out (by kernel_rfl)) (fun _ _ _ h => h) (by (try simp only [Nat.reduceAdd]); first | done | rfl) (Or.inl ⟨by rfl, ?_⟩) hHeld ?_ ?_; rotate_left; (rintro w' ⟨s0_, s1_, s2_, s3_, s4_, s5_, s6_⟩; go_simp; with_reducible rfl); rotate_left; (simp only [Act.put, List.setIfInBounds_toArray, List.set_cons_zero, List.set_cons_succ, i64_w, i32_w]; rfl)))
       refine done_ (done_of HT_.out (by kernel_rfl)) ?_
       try go_wp2
       go_meet
       case rel => exact ⟨_, rfl, ⟨by simp [rowOk, prevI, HT1.out, HSV.out]⟩, BK9, HB9⟩
      | succ j =>
       have hj0 : (0 : Int) ≤ (j : Int) := by omega
       have hj1 : (j : Int) < (l0_0.length : Int) := by omega
       have hjw : wrap64 (j : Int) = (j : Int) := by unfold wrap64; omega
       have hk0 : decide ((0 : Int) < ((j + 1 : Nat) : Int)) = true := decide_eq_true (by omega)
       obtain ⟨ad_, e0, hy0, hy1, hy2, hy3, hy4, hy5⟩ := at_T54 HR0.out j hj0 hj1
       obtain rfl : ad = ad_ := (by injection e0)
       simp only [Int.toNat_natCast] at hy0
       clear hy1 hy2 hy3 hy4 hy5
       have c0 := (HB.out.cell (World.block_lt_of_cell? w _ hy0)).trans hy0
       obtain ⟨y, hy⟩ : ∃ y, rd_T54 l0_0 (j : Int) = y := ⟨_, rfl⟩
       rw [hy] at hy0 c0
       have HY := Aside0.mk hy
       clear hy
       have hjt : (j : Int).toNat = j := Int.toNat_natCast j
       refine start_ (n := 35) (S := fun w' => w'.cell? ⟨g4, 0, none⟩ = some (.int .i64 x.f0.f0) ∧ w'.cell? ⟨g4, 1, none⟩ = some (.int .i64 x.f0.f1) ∧ w'.cell? ⟨g4, 2, none⟩ = some (.int .i64 x.f0.f2) ∧ w'.cell? ⟨g4, 3, none⟩ = some (.int .i64 x.f0.f3) ∧ w'.cell? ⟨g4, 4, none⟩ = some (.int .i64 x.f0.f4) ∧ w'.cell? ⟨g4, 5, none⟩ = some (.bool false) ∧ w'.cell? ⟨gt, 0, none⟩ = some (.slice (some ad) l0_0.length c0_0) ∧ w'.cell? (ad.add (j * 6)) = some (.int .i64 y.f0.f0)) (ds := []) (pre_ 35 0) (by kernel_rfl) rfl rfl ⟨s0, s1, s2, s3, s4, s5, t0, c0⟩ (fun hHeld => ?_); refine with_tabW table_Check.tab4 table_Check.bits4 (fun HT_ HW_ => ?_)
       iterate 2 (first
        | (refine pureJ_ (v := undef) (a' := ?_) rfl rfl (any_of HT_.out (by kernel_rfl)) (fun _ _ _ h => h) (by (try simp only [Nat.reduceAdd]); first | done | rfl) (Or.inr ⟨by rfl, rfl⟩) ?_ ?_; rotate_left; (simp only [Act.put, List.setIfInBounds_toArray, List.set_cons_zero, List.set_cons_succ, i64_w, i32_w]; rfl))
        | (refine pureJ_ (v := ?_) (a' := ?_) rfl rfl (any_of HT_.out (by kernel_rfl)) (fun _ _ _ h => h) (by (try simp only [Nat.reduceAdd]); first | done | rfl) (Or.inl ⟨by rfl, ?_⟩) ?_ ?_; rotate_left; (intro w'; go_simp; with_reducible rfl); rotate_left; (simp only [Act.put, List.setIfInBounds_toArray, List.set_cons_zero, List.set_cons_succ, i64_w, i32_w]; rfl))
        | (refine takeJ_ (v := ?_) (a' := ?_) rfl rfl (take_ofW HT_.out HW_.out (by kernel_rfl)) (fun _ _ _ h => h) (by (try simp only [Nat.reduceAdd]); first | done | rfl) (Or.inl ⟨by rfl, ?_⟩) hHeld ?_ ?_; rotate_left; (rintro w' ⟨s0_, s1_, s2_, s3_, s4_, s5_, s6_, s7_⟩; go_simp; with_reducible rfl); rotate_left; (simp only [Act.put, List.setIfInBounds_toArray, List.set_cons_zero, List.set_cons_succ, i64_w, i32_w]; rfl)))
       refine one_ (i := 2) (N := some 15) (pre_ 35 3) rfl rfl (one_of HT_.out (by kernel_rfl)) (by decide) (fun K hK => ?_)
       refine goes_ Try.func14 (by kernel_rfl) rfl #[.agg #[.int .i64 x.f0.f0, .int .i64 x.f0.f1, .int .i64 x.f0.f2, .int .i64 x.f0.f3, .int .i64 x.f0.f4]] (by rfl) rfl rfl (by (try simp only [List.map_toArray, List.map_cons, List.map_nil]); first | done | rfl) ?_
       with_reducible refine (param_Check.calls x.f0.f0 x.f0.f1 x.f0.f2 x.f0.f3 x.f0.f4 _ _ HCK.out).mono ?_
       rintro e w9 ⟨rfl, hb9⟩
       refine ⟨_, rfl, ?_⟩
       have HB9 := Aside0.mk (below_step (below_drew1 HB.out) hb9)
       have BK9 := Aside0.mk (blk_below (blk_drew BK.out) hb9)
       have B9 := Aside0.mk (blk_below (blk_drew B4.out) hb9)
       clear hb9
       refine hK.out _ _ ⟨(blk_cell B9.out 0).trans rfl, (blk_cell B9.out 1).trans rfl, (blk_cell B9.out 2).trans rfl, (blk_cell B9.out 3).trans rfl, (blk_cell B9.out 4).trans rfl, (blk_cell B9.out 5).trans rfl, (blk_cell BK9.out 0).trans rfl, (HB9.out.cell (World.block_lt_of_cell? w _ hy0)).trans hy0⟩ (fun hHeld => ?_)
       clear hK K
       refine norm_ (a' := ?_) ?_ ?_
       rotate_left; (show Act.put _ (some 15) _ = _; simp only [Act.put, List.setIfInBounds_toArray, List.set_cons_zero, List.set_cons_succ, i64_w, i32_w]; rfl)
       iterate 32 (first
        | (refine pureJ_ (v := undef) (a' := ?_) rfl rfl (any_of HT_.out (by kernel_rfl)) (fun _ _ _ h => h) (by (try simp only [Nat.reduceAdd]); first | done | rfl) (Or.inr ⟨by rfl, rfl⟩) ?_ ?_; rotate_left; (simp only [Act.put, List.setIfInBounds_toArray, List.set_cons_zero, List.set_cons_succ, i64_w, i32_w]; rfl))
        | (refine pureJ_ (v := ?_) (a' := ?_) rfl rfl (any_of HT_.out (by kernel_rfl)) (fun _ _ _ h => h) (by (try simp only [Nat.reduceAdd]); first | done | rfl) (Or.inl ⟨by rfl, ?_⟩) ?_ ?_; rotate_left; (intro w'; go_simp; with_reducible rfl); rotate_left; (simp only [Act.put, List.setIfInBounds_toArray, List.set_cons_zero, List.set_cons_succ, i64_w, i32_w]; rfl))
        | (refine takeJ_ (v := ?_) (a' := ?_) rfl rfl (take_ofW HT_.out HW_.out (by kernel_rfl)) (fun _ _ _ h => h) (by (try simp only [Nat.reduceAdd]); first | done | rfl) (Or.inl ⟨by rfl, ?_⟩) hHeld ?_ ?_; rotate_left; (rintro w' ⟨s0_, s1_, s2_, s3_, s4_, s5_, s6_, s7_⟩; go_simp; with_reducible rfl); rotate_left; (simp only [Act.put, List.setIfInBounds_toArray, List.set_cons_zero, List.set_cons_succ, i64_w, i32_w]; rfl)))
       refine done_ (done_of HT_.out (by kernel_rfl)) ?_
       try go_wp2
       go_meet
       case rel => exact ⟨_, rfl, ⟨lastF HT1.out HSV.out HY.out⟩, BK9, HB9⟩
   case rest =>
    clear HCK t0 s0 s1 s2 s3 s4 s5 BK HB B4
    obtain ⟨b, rfl, HOK, BK, HB⟩ := hcut
    cases b with
    | true =>
     go_wp2
     go_ret
     exact ⟨by unfold tabB; rw [HG.out, HS.out, HOK.out]; rfl, HB.out⟩
    | false =>
     go_wp2
     go_roundw
     case rel => exact ⟨k + 1, by omega, by go_num, ⟨by rw [HG.out, HS.out, HOK.out]; rfl⟩, BK, HB⟩
     case measure => simp [intOf]; omega
  ·have hkl : k = l0_0.length := by omega
   have HGG : Aside0 (tabGo none l0_0 = true) := ⟨by rw [HG.out, hkl]; exact tabGo_end l0_0⟩
   clear hkl HG
   by_cases h16 : (l0_0.length : Int) ≤ 16
   ·by_cases h0 : a0_1 ≥ 0
    ·go_wp2
     go_ret
     exact ⟨by unfold tabB; rw [HGG.out, decide_eq_true (show l0_0.length ≤ 16 by omega), decide_eq_true (show 0 ≤ a0_1 from h0)]; rfl, HB.out⟩
    ·go_wp2
     go_ret
     exact ⟨by unfold tabB; rw [decide_eq_false (show ¬ 0 ≤ a0_1 by omega)]; simp, HB.out⟩
   ·go_wp2
    go_ret
    exact ⟨by unfold tabB; rw [decide_eq_false (show ¬ l0_0.length ≤ 16 by omega)]; simp, HB.out⟩

/-! ### probe_Report: function 30 -/
mutual
def probe_Report.j0 : Nat → List (S28) → Bool → Option ((List (S87)))
 | 0, _, _ => none
 | k + 1, x3, x18 => if x18 = true then (some ([] : List (S87))) else (probe_Report.l0 k x3 ([] : List (S87)) x3 (x3.length : Int) 0)
def probe_Report.l0 : Nat → List (S28) → List (S87) → List (S28) → Int → Int → Option ((List (S87)))
 | 0, _, _, _, _, _ => none
 | k + 1, x3, x4, x19, x20, x21 => if x21 < x20 then (if 0 ≤ x21 then (if x21 < (x19.length : Int) then ((probe_MostC.f k x3 x21).bind fun t217 => ((probe_LeastD.f k x3 x21).bind fun t218 => (if x4.length < 5864062014805 then (probe_Report.l0 k x3 (x4 ++ [(⟨(rd_T28 x19 x21).f0, t217, t218⟩ : S87)]) x19 x20 (wrap64 (x21 + 1))) else (none)))) else (none)) else (none)) else (some x4)
end
def probe_Report.f (k : Nat) (l0_0 : List (S54)) (a0_1 : Int) : Option ((List (S87))) := (table_In.f k l0_0 a0_1 a0_1).bind fun t210 => ((table_Check.f l0_0 a0_1).bind fun t213 => (if t213 = true then ((probe_fits.f k t210).bind fun t214 => (probe_Report.j0 k t210 (!t214))) else (probe_Report.j0 k t210 true)))
theorem probe_Report.mono_l : ∀ k, (∀ y0 y1, LeO (probe_Report.j0 k y0 y1) (probe_Report.j0 (k + 1) y0 y1)) ∧ (∀ y0 y1 y2 y3 y4, LeO (probe_Report.l0 k y0 y1 y2 y3 y4) (probe_Report.l0 (k + 1) y0 y1 y2 y3 y4))
 | 0 => ⟨fun _ _ r h => by simp [probe_Report.j0] at h, fun _ _ _ _ _ r h => by simp [probe_Report.l0] at h⟩
 | k + 1 => by
  obtain ⟨ih0, ih1⟩ := probe_Report.mono_l k
  refine ⟨?_, ?_⟩
  ·intro y0 y1
   unfold probe_Report.j0
   repeat' first
   | (with_reducible exact ih0 _ _)
   | (with_reducible exact ih1 _ _ _ _ _)
   | (with_reducible exact probe_LeastD.mono _ _ _)
   | (with_reducible exact probe_MostC.mono _ _ _)
   | (with_reducible exact probe_fits.mono _ _)
   | (with_reducible exact table_In.mono _ _ _ _)
   | (with_reducible exact LeO.refl _)
   | (with_reducible exact LeO.none _)
   | (with_reducible refine LeO.ite ?_ ?_)
   | (with_reducible refine LeO.bind ?_ (fun _ => ?_))
   | exact ih0 _ _
   | exact ih1 _ _ _ _ _
   | exact probe_LeastD.mono _ _ _
   | exact probe_MostC.mono _ _ _
   | exact probe_fits.mono _ _
   | exact table_In.mono _ _ _ _
   | exact LeO.none _
   | refine LeO.ite ?_ ?_
   | refine LeO.bind ?_ (fun _ => ?_)
  ·intro y0 y1 y2 y3 y4
   unfold probe_Report.l0
   repeat' first
   | (with_reducible exact ih0 _ _)
   | (with_reducible exact ih1 _ _ _ _ _)
   | (with_reducible exact probe_LeastD.mono _ _ _)
   | (with_reducible exact probe_MostC.mono _ _ _)
   | (with_reducible exact probe_fits.mono _ _)
   | (with_reducible exact table_In.mono _ _ _ _)
   | (with_reducible exact LeO.refl _)
   | (with_reducible exact LeO.none _)
   | (with_reducible refine LeO.ite ?_ ?_)
   | (with_reducible refine LeO.bind ?_ (fun _ => ?_))
   | exact ih0 _ _
   | exact ih1 _ _ _ _ _
   | exact probe_LeastD.mono _ _ _
   | exact probe_MostC.mono _ _ _
   | exact probe_fits.mono _ _
   | exact table_In.mono _ _ _ _
   | exact LeO.none _
   | refine LeO.ite ?_ ?_
   | refine LeO.bind ?_ (fun _ => ?_)
theorem probe_Report.mono : ∀ a0 a1 k, LeO (probe_Report.f k a0 a1) (probe_Report.f (k + 1) a0 a1) := by
 intro a0 a1 k
 obtain ⟨ih0, ih1⟩ := probe_Report.mono_l k
 unfold probe_Report.f
 repeat' first
   | (with_reducible exact ih0 _ _)
   | (with_reducible exact ih1 _ _ _ _ _)
   | (with_reducible exact probe_LeastD.mono _ _ _)
   | (with_reducible exact probe_MostC.mono _ _ _)
   | (with_reducible exact probe_fits.mono _ _)
   | (with_reducible exact table_In.mono _ _ _ _)
   | (with_reducible exact LeO.refl _)
   | (with_reducible exact LeO.none _)
   | (with_reducible refine LeO.ite ?_ ?_)
   | (with_reducible refine LeO.bind ?_ (fun _ => ?_))
   | exact ih0 _ _
   | exact ih1 _ _ _ _ _
   | exact probe_LeastD.mono _ _ _
   | exact probe_MostC.mono _ _ _
   | exact probe_fits.mono _ _
   | exact table_In.mono _ _ _ _
   | exact LeO.none _
   | refine LeO.ite ?_ ?_
   | refine LeO.bind ?_ (fun _ => ?_)
def probe_Report.T8 : Bool × List (List Nat × List Nat) := (true, [([], []), ([], []), ([1], [1]), ([], []), ([], []), ([3, 4], [3, 4]), ([], []), ([], []), ([6, 7, 5], [6, 7]), ([2, 5, 8], [2, 5, 8]), ([9], [9]), ([0, 10, 8], [0, 10]), ([11, 11, 0, 1, 2, 3, 4, 5, 6, 7, 8, 9, 10, 11], [0, 11])])
def probe_Report.B8 : List Nat := [0, 0, 2, 0, 0, 24, 0, 0, 248, 510, 1022, 2047, 4095]
theorem probe_Report.tab8 : rtab .any (opsOf Try.f30 8) = probe_Report.T8 := by kernel_rfl
theorem probe_Report.bits8 : waitsOk probe_Report.T8.2 probe_Report.B8 = true := by kernel_rfl
set_option maxHeartbeats 8000000 in
set_option maxRecDepth 100000 in
theorem probe_Report.calls (k : Nat) (A0_0 : Option Addr) (c0_0 : Nat) (l0_0 : List (S54)) (a0_1 : Int) (r : List (S87)) (w : World) (hr0_0 : Kd.C k54 w A0_0 l0_0.length l0_0) (hc0_0 : l0_0.length ≤ c0_0) (h : probe_Report.f k l0_0 a0_1 = some r) :
  Calls Try.prog 30 #[.agg #[.slice A0_0 l0_0.length c0_0, .int .i64 a0_1]] w fun e w' => ∃ v0_ : Value, e = .returned (v0_) ∧ Kd.R k87 87 w' w.heap.size (fun _ => True) v0_ r ∧ Below w.heap.size w w' := by
 have hu52 := Try.underlying52
 have hu28 := Try.underlying28
 have hu87 := Try.underlying87
 have HR0_0 := Aside0.mk hr0_0
 have HC0_0 := Aside0.mk hc0_0
 clear hr0_0 hc0_0
 have HB := Aside0.mk (Below.refl w.heap.size w)
 have H : ((table_In.f k l0_0 a0_1 a0_1).bind fun t210 => ((table_Check.f l0_0 a0_1).bind fun t213 => (if t213 = true then ((probe_fits.f k t210).bind fun t214 => (probe_Report.j0 k t210 (!t214))) else (probe_Report.j0 k t210 true)))) = some r := h
 clear h
 replace H := Option.bind_eq_some_iff.mp H
 obtain ⟨t210, A20, H⟩ := H
 replace H : ((table_Check.f l0_0 a0_1).bind fun t213 => (if t213 = true then ((probe_fits.f k t210).bind fun t214 => (probe_Report.j0 k t210 (!t214))) else (probe_Report.j0 k t210 true))) = some r := H
 have A2 := Aside0.mk A20
 clear A20
 have HC3 := Aside0.mk H
 clear H
 go_enter Try.func30, Try.ntmps30
 go_upto_region 2 with (first | ((with_reducible refine gate_dst (N := 1) rfl ?_); refine box_event ?hg (N := 1) ?hd (cs := #[.slice A0_0 l0_0.length c0_0, .int .i64 a0_1]) (t := 52) ?hr ?_; (case hd => rfl); (case hg => rfl); (case hr => first | (go_simp; done) | (go_simp; rfl)); intro gb209 hg w4 hbox hb; have n0_ := Aside0.mk (below_step (by repeat (first | (with_reducible first | exact HB.out | apply below_alloc | apply pw_below_drewN | apply below_drew1) | exact HB.out)) hb); have n1_ := Aside0.mk (hbox); have n2_ := Aside0.mk ((by rw [hg]; exact (below_size (by repeat (first | (with_reducible first | exact HB.out | apply below_alloc | apply pw_below_drewN | apply below_drew1) | exact HB.out))) : w.heap.size ≤ gb209)); have n3_ := Aside0.mk ((by rw [hg]; exact (below_size (by repeat (first | (with_reducible first | exact HB.out | apply below_alloc | apply pw_below_drewN | apply below_drew1) | exact HB.out))) : w.heap.size ≤ gb209)); clear HB; have HB := n0_; have BK209 := n1_; have GW209 := n2_; have GE209 := n3_; clear n0_ n1_ n2_ n3_; clear hb hbox hg; have hcz5_0 : w4.cell? ⟨gb209, 0, none⟩ = some (.slice A0_0 l0_0.length c0_0) := (blk_cell BK209.out 0).trans rfl; have hcz5_1 : w4.cell? ⟨gb209, 1, none⟩ = some (.int .i64 a0_1) := (blk_cell BK209.out 1).trans rfl; have hfz5_0 := blk_frozen BK209.out 0; have hfz5_1 := blk_frozen BK209.out 1) | ((with_reducible refine gate_callee (f := 67) rfl ?_); refine goesL_ (some 10) rfl rfl Try.func67 (by kernel_rfl) rfl #[.agg #[.slice A0_0 l0_0.length c0_0, .int .i64 a0_1], .int .i64 a0_1] rfl (by (try simp only [List.map_toArray, List.map_cons, List.map_nil]); first | done | rfl | (simp only [List.length_drop, List.length_take]; rfl)) ?_; (with_reducible refine (table_In.calls k _ _ l0_0 a0_1 a0_1 t210 _ ?side1 ?side2 A2.out).mono ?_); (case side1 => repeat (first | exact (Kd.C_below HR0_0.out HB.out) | (with_reducible refine Kd.C_alloc ?_ _) | (with_reducible refine Kd.C_drewN ?_ _) | (with_reducible refine Kd.C_drew ?_))); (case side2 => exact HC0_0.out); rintro e w6 ⟨v211, rfl, ho0, hb⟩; refine ⟨_, rfl, ?_⟩; have n0_ := Aside0.mk (Kd.R_lower ho0 (below_size (by repeat (first | (with_reducible first | exact HB.out | apply below_alloc | apply pw_below_drewN | apply below_drew1 | refine below_set ?_ GE209.out) | exact HB.out)))); have n1_ := Aside0.mk (blk_below (g := gb209) (o := .cells #[.slice A0_0 l0_0.length c0_0, .int .i64 a0_1] 52 (0, 0)) (by (with_reducible repeat (first | refine blk_drewN ?_ _ | refine blk_drew ?_ | refine blk_alloc ?_ _)); exact BK209.out) hb); have n2_ := Aside0.mk (below_step (by repeat (first | (with_reducible first | exact HB.out | apply below_alloc | apply pw_below_drewN | apply below_drew1 | refine below_set ?_ GE209.out) | exact HB.out)) hb); clear BK209; clear HB; have HO212 := n0_; have BK209 := n1_; have HB := n2_; clear n0_ n1_ n2_; (try clear hb); (try clear hb2); (try clear hk); (try clear hi); (try clear ho0)))
 (try simp only [Act.put, List.setIfInBounds_toArray, List.set_cons_zero, List.set_cons_succ])
 go_cut [18] (fun v18 wc => ∃ (kq : Nat) (x18_2 : Bool), v18 = .bool x18_2 ∧ Aside0 (probe_Report.j0 kq t210 x18_2 = some r) ∧ Aside0 (kq ≤ k) ∧ Aside0 (Kd.R k28 28 wc w.heap.size (fun _ => True) v211 t210) ∧ Aside0 (wc.heap[gb209]? = some (.cells #[(.slice A0_0 l0_0.length c0_0), .int .i64 a0_1] 52 (0, 0))) ∧ Aside0 (Below w.heap.size w wc))
 case first =>
  have H := HC3.out
  clear HC3
  replace H := Option.bind_eq_some_iff.mp H
  obtain ⟨t213, A70, H⟩ := H
  replace H : (if t213 = true then ((probe_fits.f k t210).bind fun t214 => (probe_Report.j0 k t210 (!t214))) else (probe_Report.j0 k t210 true)) = some r := H
  have A7 := Aside0.mk A70
  clear A70
  by_cases c8 : t213 = true
  ·subst c8
   have H1 : ((probe_fits.f k t210).bind fun t214 => (probe_Report.j0 k t210 (!t214))) = some r := by rw [if_pos rfl] at H; exact H
   clear H
   have H := H1
   clear H1
   replace H := Option.bind_eq_some_iff.mp H
   obtain ⟨t214, A90, H⟩ := H
   replace H : (probe_Report.j0 k t210 (!t214)) = some r := H
   have A9 := Aside0.mk A90
   clear A90
   have H' := Aside0.mk H
   clear H
   have hcz10_0 : w6.cell? ⟨gb209, 0, none⟩ = some (.slice A0_0 l0_0.length c0_0) := (blk_cell BK209.out 0).trans rfl
   have hcz10_1 : w6.cell? ⟨gb209, 1, none⟩ = some (.int .i64 a0_1) := (blk_cell BK209.out 1).trans rfl
   have hfz10_0 := blk_frozen BK209.out 0
   have hfz10_1 := blk_frozen BK209.out 1
   go_wp2_with (first | ((with_reducible refine gate_callee (f := 68) rfl ?_); refine goesL_ (some 12) rfl rfl Try.func68 (by kernel_rfl) rfl #[.agg #[.slice A0_0 l0_0.length c0_0, .int .i64 a0_1]] rfl (by (try simp only [List.map_toArray, List.map_cons, List.map_nil]); first | done | rfl | (simp only [List.length_drop, List.length_take]; rfl)) ?_; (with_reducible refine (table_Check.calls _ _ l0_0 a0_1 true _ ?side1 ?side2 A7.out).mono ?_); (case side1 => repeat (first | exact (Kd.C_below HR0_0.out HB.out) | (with_reducible refine Kd.C_alloc ?_ _) | (with_reducible refine Kd.C_drewN ?_ _) | (with_reducible refine Kd.C_drew ?_))); (case side2 => exact HC0_0.out); rintro e w11 ⟨rfl, hb⟩; refine ⟨_, rfl, ?_⟩; have n0_ := Aside0.mk (Kd.R_below (by (with_reducible repeat (first | apply Kd.R_alloc | apply Kd.R_drewN | apply Kd.R_drew)); exact HO212.out) hb); have n1_ := Aside0.mk (blk_below (g := gb209) (o := .cells #[.slice A0_0 l0_0.length c0_0, .int .i64 a0_1] 52 (0, 0)) (by (with_reducible repeat (first | refine blk_drewN ?_ _ | refine blk_drew ?_ | refine blk_alloc ?_ _)); exact BK209.out) hb); have n2_ := Aside0.mk (below_step (by repeat (first | (with_reducible first | exact HB.out | apply below_alloc | apply pw_below_drewN | apply below_drew1 | refine below_set ?_ GE209.out) | exact HB.out)) hb); clear HO212; clear BK209; clear HB; have HO212 := n0_; have BK209 := n1_; have HB := n2_; clear n0_ n1_ n2_; (try clear hb); (try clear hb2); (try clear hk); (try clear hi); obtain ⟨Ao12, co12, eo12⟩ := Kd.R_slice HO212.out; subst eo12) | (go_at_call 53; (with_reducible refine (probe_fits.calls k _ _ t210 t214 _ ?side1 ?side2 A9.out).mono ?_); (case side1 => repeat (first | exact (Kd.R_reads' HO212.out).2.2 | (with_reducible refine Kd.C_alloc ?_ _) | (with_reducible refine Kd.C_drewN ?_ _) | (with_reducible refine Kd.C_drew ?_))); (case side2 => exact (Kd.R_reads' HO212.out).2.1); rintro e w13 ⟨rfl, hb⟩; have n0_ := Aside0.mk (Kd.R_below (by (with_reducible repeat (first | apply Kd.R_alloc | apply Kd.R_drewN | apply Kd.R_drew)); exact HO212.out) hb); have n1_ := Aside0.mk (blk_below (g := gb209) (o := .cells #[.slice A0_0 l0_0.length c0_0, .int .i64 a0_1] 52 (0, 0)) (by (with_reducible repeat (first | refine blk_drewN ?_ _ | refine blk_drew ?_ | refine blk_alloc ?_ _)); exact BK209.out) hb); have n2_ := Aside0.mk (below_step (by repeat (first | (with_reducible first | exact HB.out | apply below_alloc | apply pw_below_drewN | apply below_drew1 | refine below_set ?_ GE209.out) | exact HB.out)) hb); clear HO212; clear BK209; clear HB; have HO212 := n0_; have BK209 := n1_; have HB := n2_; clear n0_ n1_ n2_; (try clear hb); (try clear hb2); (try clear hk); (try clear hi)))
   go_meet
   case rel => exact ⟨_, (!t214), (by first | rfl | (simp; done) | (simp [*]; done)), H', ⟨by first | omega | exact Nat.le_refl _⟩, ⟨by (with_reducible repeat (first | apply Kd.R_alloc | apply Kd.R_drewN | apply Kd.R_drew)); exact HO212.out⟩, ⟨by (with_reducible repeat (first | refine blk_drewN ?_ _ | refine blk_drew ?_ | refine blk_alloc ?_ _)); exact BK209.out⟩, ⟨by repeat (first | (with_reducible first | exact HB.out | apply below_alloc | apply pw_below_drewN | apply below_drew1 | refine below_set ?_ GE209.out) | exact HB.out)⟩⟩
  ·replace c8 := Bool.eq_false_iff.mpr c8
   subst c8
   have H1 : (probe_Report.j0 k t210 true) = some r := by rw [if_neg (show ¬ (false = true) by decide)] at H; exact H
   clear H
   have H := H1
   clear H1
   have H' := Aside0.mk H
   clear H
   have hcz14_0 : w6.cell? ⟨gb209, 0, none⟩ = some (.slice A0_0 l0_0.length c0_0) := (blk_cell BK209.out 0).trans rfl
   have hcz14_1 : w6.cell? ⟨gb209, 1, none⟩ = some (.int .i64 a0_1) := (blk_cell BK209.out 1).trans rfl
   have hfz14_0 := blk_frozen BK209.out 0
   have hfz14_1 := blk_frozen BK209.out 1
   go_wp2_with (first | ((with_reducible refine gate_callee (f := 68) rfl ?_); refine goesL_ (some 12) rfl rfl Try.func68 (by kernel_rfl) rfl #[.agg #[.slice A0_0 l0_0.length c0_0, .int .i64 a0_1]] rfl (by (try simp only [List.map_toArray, List.map_cons, List.map_nil]); first | done | rfl | (simp only [List.length_drop, List.length_take]; rfl)) ?_; (with_reducible refine (table_Check.calls _ _ l0_0 a0_1 false _ ?side1 ?side2 A7.out).mono ?_); (case side1 => repeat (first | exact (Kd.C_below HR0_0.out HB.out) | (with_reducible refine Kd.C_alloc ?_ _) | (with_reducible refine Kd.C_drewN ?_ _) | (with_reducible refine Kd.C_drew ?_))); (case side2 => exact HC0_0.out); rintro e w15 ⟨rfl, hb⟩; refine ⟨_, rfl, ?_⟩; have n0_ := Aside0.mk (Kd.R_below (by (with_reducible repeat (first | apply Kd.R_alloc | apply Kd.R_drewN | apply Kd.R_drew)); exact HO212.out) hb); have n1_ := Aside0.mk (blk_below (g := gb209) (o := .cells #[.slice A0_0 l0_0.length c0_0, .int .i64 a0_1] 52 (0, 0)) (by (with_reducible repeat (first | refine blk_drewN ?_ _ | refine blk_drew ?_ | refine blk_alloc ?_ _)); exact BK209.out) hb); have n2_ := Aside0.mk (below_step (by repeat (first | (with_reducible first | exact HB.out | apply below_alloc | apply pw_below_drewN | apply below_drew1 | refine below_set ?_ GE209.out) | exact HB.out)) hb); clear HO212; clear BK209; clear HB; have HO212 := n0_; have BK209 := n1_; have HB := n2_; clear n0_ n1_ n2_; (try clear hb); (try clear hb2); (try clear hk); (try clear hi)))
   go_meet
   case rel => exact ⟨_, (true), (by first | rfl | (simp; done) | (simp [*]; done)), H', ⟨by first | omega | exact Nat.le_refl _⟩, ⟨by (with_reducible repeat (first | apply Kd.R_alloc | apply Kd.R_drewN | apply Kd.R_drew)); exact HO212.out⟩, ⟨by (with_reducible repeat (first | refine blk_drewN ?_ _ | refine blk_drew ?_ | refine blk_alloc ?_ _)); exact BK209.out⟩, ⟨by repeat (first | (with_reducible first | exact HB.out | apply below_alloc | apply pw_below_drewN | apply below_drew1 | refine below_set ?_ GE209.out) | exact HB.out)⟩⟩
 case rest =>
  clear HC3
  try clear p2
  try clear c3
  try clear c6
  try clear c8
  try clear hcz10_0
  try clear hcz10_1
  try clear hcz14_0
  try clear hcz14_1
  try clear hcz5_0
  try clear hcz5_1
  try clear hfz10_0
  try clear hfz10_1
  try clear hfz14_0
  try clear hfz14_1
  try clear hfz5_0
  try clear hfz5_1
  obtain ⟨kq, x18_2, rfl, HA, HJ2, HO_3, BK209, HB⟩ := hcut
  cases kq with
  | zero => exact absurd HA.out (by simp [probe_Report.j0])
  | succ kj2 =>
   have H := HA.out
   clear HA
   simp only [probe_Report.j0] at H
   by_cases c16 : x18_2 = true
   ·subst c16
    have H1 : (some ([] : List (S87))) = some r := by rw [if_pos rfl] at H; exact H
    clear H
    have H := H1
    clear H1
    obtain rfl := Option.some.inj H
    go_wp2
    go_ret
    exact ⟨_, by first | rfl | (simp [errW_none, errW_some] <;> rfl) | (simp [*, errW_none, errW_some] <;> rfl), by first | exact Kd.R_nil _ _ _ _ _ | exact Kd.N_nil _ _ _ _ _ | exact Kd.V_nil _ _ _ _ _ | exact Kd.Q_nil _ _ _ _ _ | exact Kd.S_nil _ _ _ _ _, by repeat (first | (with_reducible first | exact HB.out | apply below_alloc | apply pw_below_drewN | apply below_drew1 | refine below_set ?_ GE209.out) | exact HB.out)⟩
   ·replace c16 := Bool.eq_false_iff.mpr c16
    subst c16
    have H1 : (probe_Report.l0 kj2 t210 ([] : List (S87)) t210 (t210.length : Int) 0) = some r := by rw [if_neg (show ¬ (false = true) by decide)] at H; exact H
    clear H
    have H := H1
    clear H1
    have H' := Aside0.mk H
    clear H
    obtain ⟨Ao17, co17, eo17⟩ := Kd.R_slice HO_3.out
    subst eo17
    go_wp2
    go_loopg [4, 21] kj2 (fun kq v4 v21 w' => ∃ (x4_2 : List (S87)) (x21_2 : Int), v21 = .int .i64 x21_2 ∧ Aside0 (probe_Report.l0 kq t210 x4_2 t210 (t210.length : Int) x21_2 = some r) ∧ Aside0 (kq ≤ kj2) ∧ Aside0 (Kd.R k28 28 w' w.heap.size (fun _ => True) (.slice Ao17 t210.length co17) t210) ∧ Aside0 (Kd.R k87 87 w' w.heap.size (fun _ => True) v4 x4_2) ∧ Aside0 (Kd.R k28 28 w' w.heap.size (fun _ => True) (.slice Ao17 t210.length co17) t210) ∧ Aside0 (w'.heap[gb209]? = some (.cells #[(.slice A0_0 l0_0.length c0_0), .int .i64 a0_1] 52 (0, 0))) ∧ Aside0 (Below w.heap.size w w'))
    case atStart => exact ⟨(([] : List (S87))), (0), (by first | rfl | (simp; done) | (simp [*]; done)), H', ⟨Nat.le_refl _⟩, ⟨by (with_reducible repeat (first | apply Kd.R_alloc | apply Kd.R_drewN | apply Kd.R_drew)); exact HO_3.out⟩, ⟨by first | exact Kd.R_nil _ _ _ _ _ | exact Kd.N_nil _ _ _ _ _ | exact Kd.V_nil _ _ _ _ _ | exact Kd.Q_nil _ _ _ _ _ | exact Kd.S_nil _ _ _ _ _⟩, ⟨by (with_reducible repeat (first | apply Kd.R_alloc | apply Kd.R_drewN | apply Kd.R_drew)); exact HO_3.out⟩, ⟨by (with_reducible repeat (first | refine blk_drewN ?_ _ | refine blk_drew ?_ | refine blk_alloc ?_ _)); exact BK209.out⟩, ⟨by repeat (first | (with_reducible first | exact HB.out | apply below_alloc | apply pw_below_drewN | apply below_drew1 | refine below_set ?_ GE209.out) | exact HB.out)⟩⟩
    case round =>
     clear H'
     try clear c1
     try clear p2
     try clear c3
     try clear c6
     try clear c8
     try clear c16
     try clear hcz10_0
     try clear hcz10_1
     try clear hcz14_0
     try clear hcz14_1
     try clear hcz5_0
     try clear hcz5_1
     try clear hfz10_0
     try clear hfz10_1
     try clear hfz14_0
     try clear hfz14_1
     try clear hfz5_0
     try clear hfz5_1
     try clear p2
     obtain ⟨x4_2, x21_2, rfl, HA, HK2, HO_3, HO_4, HO_19, BK209, HB⟩ := hrel
     cases gk with
     | zero => exact absurd HA.out (by simp [probe_Report.l0])
     | succ k2 =>
      have H := HA.out
      clear HA
      simp only [probe_Report.l0] at H
      by_cases c18 : x21_2 < (t210.length : Int)
      ·rw [if_pos c18] at H
       have c18b0 : decide (x21_2 < (t210.length : Int)) = true := decide_eq_true c18
       clear c18
       by_cases c19 : 0 ≤ x21_2
       ·rw [if_pos c19] at H
        have c19b0 : decide (0 ≤ x21_2) = true := decide_eq_true c19
        clear c19
        by_cases c20 : x21_2 < (t210.length : Int)
        ·rw [if_pos c20] at H
         have c20b0 : decide (x21_2 < (t210.length : Int)) = true := decide_eq_true c20
         clear c20
         replace H := Option.bind_eq_some_iff.mp H
         obtain ⟨t217, A210, H⟩ := H
         replace H : ((probe_LeastD.f k2 t210 x21_2).bind fun t218 => (if x4_2.length < 5864062014805 then (probe_Report.l0 k2 t210 (x4_2 ++ [(⟨(rd_T28 t210 x21_2).f0, t217, t218⟩ : S87)]) t210 (t210.length : Int) (wrap64 (x21_2 + 1))) else (none))) = some r := H
         have A21 := Aside0.mk A210
         clear A210
         replace H := Option.bind_eq_some_iff.mp H
         obtain ⟨t218, A220, H⟩ := H
         replace H : (if x4_2.length < 5864062014805 then (probe_Report.l0 k2 t210 (x4_2 ++ [(⟨(rd_T28 t210 x21_2).f0, t217, t218⟩ : S87)]) t210 (t210.length : Int) (wrap64 (x21_2 + 1))) else (none)) = some r := H
         have A22 := Aside0.mk A220
         clear A220
         by_cases c23 : x4_2.length < 5864062014805
         ·rw [if_pos c23] at H
          have LMc23 := Aside0.mk c23
          clear c23
          obtain ⟨y219, hy219⟩ : ∃ y_ : List (S87), y_ = (x4_2 ++ [(⟨(rd_T28 t210 x21_2).f0, t217, t218⟩ : S87)]) := ⟨_, rfl⟩
          replace H : (probe_Report.l0 k2 t210 y219 t210 (t210.length : Int) (wrap64 (x21_2 + 1))) = some r := by first | (rw [hy219]; with_reducible exact H) | (have H2_ := (Option.bind_some _ _).symm.trans H; rw [hy219]; with_reducible exact H2_) | (have H2_ := (Option.bind_some _ _).symm.trans H; with_reducible exact H2_) | with_reducible exact H | (rw [hy219]; exact H) | exact H
          have Ny219 := Aside0.mk hy219
          clear hy219
          have H' := Aside0.mk H
          clear H
          have p215 : 0 ≤ (x21_2 : Int) := of_decide_eq_true (by first | (with_reducible assumption) | assumption)
          have q215 : x21_2 < (t210.length : Int) := of_decide_eq_true (by first | (with_reducible assumption) | assumption)
          obtain ⟨ad215, e215, hx215_0, hx215_1, hx215_2, hx215_3, hx215_4⟩ := at_T28 (Kd.R_reads' HO_19.out).2.2 x21_2 p215 q215
          cases e215
          replace p215 := eq_true p215
          replace q215 := eq_true q215
          try go_wp2_with (first | ((with_reducible refine gate_dst (N := 6) rfl ?_); refine box_event ?hg (N := 6) ?hd (cs := #[.int .i64 0, .int .i64 0, .int .i64 0, .int .i64 0, .int .i64 0]) (t := 28) ?hr ?_; (case hd => rfl); (case hg => rfl); (case hr => first | (go_simp; done) | (go_simp; rfl)); intro gb216 hg w24 hbox hb; have n0_ := Aside0.mk (Kd.R_below (Kd.R_elderB (by (with_reducible repeat (first | apply Kd.R_alloc | apply Kd.R_drewN | apply Kd.R_drew)); exact HO_3.out) gb216 (Nat.le_of_eq hg.symm)) hb); have n1_ := Aside0.mk (Kd.R_below (by (with_reducible repeat (first | apply Kd.R_alloc | apply Kd.R_drewN | apply Kd.R_drew)); exact HO_4.out) hb); have n2_ := Aside0.mk (Kd.R_below (Kd.R_elderB (by (with_reducible repeat (first | apply Kd.R_alloc | apply Kd.R_drewN | apply Kd.R_drew)); exact HO_19.out) gb216 (Nat.le_of_eq hg.symm)) hb); have n3_ := Aside0.mk (blk_below (g := gb209) (o := .cells #[.slice A0_0 l0_0.length c0_0, .int .i64 a0_1] 52 (0, 0)) (by (with_reducible repeat (first | refine blk_drewN ?_ _ | refine blk_drew ?_ | refine blk_alloc ?_ _)); exact BK209.out) hb); have n4_ := Aside0.mk (below_step (by repeat (first | (with_reducible first | exact HB.out | apply below_alloc | apply pw_below_drewN | apply below_drew1 | refine below_set ?_ GE209.out) | exact HB.out)) hb); have n5_ := Aside0.mk (hbox); have n6_ := Aside0.mk ((by rw [hg]; exact (below_size (by repeat (first | (with_reducible first | exact HB.out | apply below_alloc | apply pw_below_drewN | apply below_drew1 | refine below_set ?_ GE209.out) | exact HB.out))) : w.heap.size ≤ gb216)); have n7_ := Aside0.mk ((by rw [hg]; exact (below_size (by repeat (first | (with_reducible first | exact HB.out | apply below_alloc | apply pw_below_drewN | apply below_drew1 | refine below_set ?_ GE209.out) | exact HB.out))) : w.heap.size ≤ gb216)); have n8_ := Aside0.mk ((by rw [hg]; exact Nat.ne_of_lt (blk_lt (g := gb209) (o := .cells #[.slice A0_0 l0_0.length c0_0, .int .i64 a0_1] 52 (0, 0)) (by (with_reducible repeat (first | refine blk_drewN ?_ _ | refine blk_drew ?_ | refine blk_alloc ?_ _)); exact BK209.out)) : gb209 ≠ gb216)); have n9_ := Aside0.mk ((by rw [hg]; exact Nat.ne_of_gt (blk_lt (g := gb209) (o := .cells #[.slice A0_0 l0_0.length c0_0, .int .i64 a0_1] 52 (0, 0)) (by (with_reducible repeat (first | refine blk_drewN ?_ _ | refine blk_drew ?_ | refine blk_alloc ?_ _)); exact BK209.out)) : gb216 ≠ gb209)); clear HO_3; clear HO_4; clear HO_19; clear BK209; clear HB; have HO_3 := n0_; have HO_4 := n1_; have HO_19 := n2_; have BK209 := n3_; have HB := n4_; have BK216 := n5_; have GW216 := n6_; have GE216 := n7_; have NB209_216 := n8_; have NB216_209 := n9_; clear n0_ n1_ n2_ n3_ n4_ n5_ n6_ n7_ n8_ n9_; clear hb hbox hg; have hnb25 := NB216_209.out; have hnc25 := NB209_216.out; have hcz26_0 : w24.cell? ⟨gb216, 0, none⟩ = some (.int .i64 0) := (blk_cell BK216.out 0).trans rfl; have hcz26_1 : w24.cell? ⟨gb216, 1, none⟩ = some (.int .i64 0) := (blk_cell BK216.out 1).trans rfl; have hcz26_2 : w24.cell? ⟨gb216, 2, none⟩ = some (.int .i64 0) := (blk_cell BK216.out 2).trans rfl; have hcz26_3 : w24.cell? ⟨gb216, 3, none⟩ = some (.int .i64 0) := (blk_cell BK216.out 3).trans rfl; have hcz26_4 : w24.cell? ⟨gb216, 4, none⟩ = some (.int .i64 0) := (blk_cell BK216.out 4).trans rfl; have hfz26_0 := blk_frozen BK216.out 0; have hfz26_1 := blk_frozen BK216.out 1; have hfz26_2 := blk_frozen BK216.out 2; have hfz26_3 := blk_frozen BK216.out 3; have hfz26_4 := blk_frozen BK216.out 4))
          have n0_ : Aside0 (Kd.R k28 28 (((((w24.setCell ⟨gb216, 0, none⟩ (.int .i64 ((rd_T28 t210 x21_2).f0))).setCell ⟨gb216, 1, none⟩ (.int .i64 ((rd_T28 t210 x21_2).f1))).setCell ⟨gb216, 2, none⟩ (.int .i64 ((rd_T28 t210 x21_2).f2))).setCell ⟨gb216, 3, none⟩ (.int .i64 ((rd_T28 t210 x21_2).f3))).setCell ⟨gb216, 4, none⟩ (.int .i64 ((rd_T28 t210 x21_2).f4))) w.heap.size (fun k_ => k_ ≠ gb216) (.slice (some ad215) t210.length co17) t210) := ⟨by (with_reducible repeat (first | apply Kd.R_alloc | apply Kd.R_drewN | apply Kd.R_drew)); exact Kd.R_mono (Kd.R_far (p := ⟨gb216, 4, none⟩) (Kd.R_far (p := ⟨gb216, 3, none⟩) (Kd.R_far (p := ⟨gb216, 2, none⟩) (Kd.R_far (p := ⟨gb216, 1, none⟩) (Kd.R_far (p := ⟨gb216, 0, none⟩) (Kd.R_mono HO_3.out (fun k_ hk => (⟨hk, hk.2⟩ : _ ∧ k_ ≠ gb216))) (fun _ hk => hk.2) (.int .i64 ((rd_T28 t210 x21_2).f0))) (fun _ hk => hk.2) (.int .i64 ((rd_T28 t210 x21_2).f1))) (fun _ hk => hk.2) (.int .i64 ((rd_T28 t210 x21_2).f2))) (fun _ hk => hk.2) (.int .i64 ((rd_T28 t210 x21_2).f3))) (fun _ hk => hk.2) (.int .i64 ((rd_T28 t210 x21_2).f4))) (fun _ hk => hk.1.2)⟩
          have n1_ : Aside0 (Kd.R k87 87 (((((w24.setCell ⟨gb216, 0, none⟩ (.int .i64 ((rd_T28 t210 x21_2).f0))).setCell ⟨gb216, 1, none⟩ (.int .i64 ((rd_T28 t210 x21_2).f1))).setCell ⟨gb216, 2, none⟩ (.int .i64 ((rd_T28 t210 x21_2).f2))).setCell ⟨gb216, 3, none⟩ (.int .i64 ((rd_T28 t210 x21_2).f3))).setCell ⟨gb216, 4, none⟩ (.int .i64 ((rd_T28 t210 x21_2).f4))) w.heap.size (fun _ => True) u4 x4_2) := ⟨by (with_reducible repeat (first | apply Kd.R_alloc | apply Kd.R_drewN | apply Kd.R_drew)); exact Kd.R_mono (Kd.R_far (p := ⟨gb216, 4, none⟩) (Kd.R_far (p := ⟨gb216, 3, none⟩) (Kd.R_far (p := ⟨gb216, 2, none⟩) (Kd.R_far (p := ⟨gb216, 1, none⟩) (Kd.R_far (p := ⟨gb216, 0, none⟩) (Kd.R_types HO_4.out BK216.out (by decide)) (fun _ hk => hk.2) (.int .i64 ((rd_T28 t210 x21_2).f0))) (fun _ hk => hk.2) (.int .i64 ((rd_T28 t210 x21_2).f1))) (fun _ hk => hk.2) (.int .i64 ((rd_T28 t210 x21_2).f2))) (fun _ hk => hk.2) (.int .i64 ((rd_T28 t210 x21_2).f3))) (fun _ hk => hk.2) (.int .i64 ((rd_T28 t210 x21_2).f4))) (fun _ hk => trivial)⟩
          have n2_ : Aside0 (Kd.R k28 28 (((((w24.setCell ⟨gb216, 0, none⟩ (.int .i64 ((rd_T28 t210 x21_2).f0))).setCell ⟨gb216, 1, none⟩ (.int .i64 ((rd_T28 t210 x21_2).f1))).setCell ⟨gb216, 2, none⟩ (.int .i64 ((rd_T28 t210 x21_2).f2))).setCell ⟨gb216, 3, none⟩ (.int .i64 ((rd_T28 t210 x21_2).f3))).setCell ⟨gb216, 4, none⟩ (.int .i64 ((rd_T28 t210 x21_2).f4))) w.heap.size (fun k_ => k_ ≠ gb216) (.slice (some ad215) t210.length co17) t210) := ⟨by (with_reducible repeat (first | apply Kd.R_alloc | apply Kd.R_drewN | apply Kd.R_drew)); exact Kd.R_mono (Kd.R_far (p := ⟨gb216, 4, none⟩) (Kd.R_far (p := ⟨gb216, 3, none⟩) (Kd.R_far (p := ⟨gb216, 2, none⟩) (Kd.R_far (p := ⟨gb216, 1, none⟩) (Kd.R_far (p := ⟨gb216, 0, none⟩) (Kd.R_mono HO_19.out (fun k_ hk => (⟨hk, hk.2⟩ : _ ∧ k_ ≠ gb216))) (fun _ hk => hk.2) (.int .i64 ((rd_T28 t210 x21_2).f0))) (fun _ hk => hk.2) (.int .i64 ((rd_T28 t210 x21_2).f1))) (fun _ hk => hk.2) (.int .i64 ((rd_T28 t210 x21_2).f2))) (fun _ hk => hk.2) (.int .i64 ((rd_T28 t210 x21_2).f3))) (fun _ hk => hk.2) (.int .i64 ((rd_T28 t210 x21_2).f4))) (fun _ hk => hk.1.2)⟩
          have n3_ : Aside0 ((((((w24.setCell ⟨gb216, 0, none⟩ (.int .i64 ((rd_T28 t210 x21_2).f0))).setCell ⟨gb216, 1, none⟩ (.int .i64 ((rd_T28 t210 x21_2).f1))).setCell ⟨gb216, 2, none⟩ (.int .i64 ((rd_T28 t210 x21_2).f2))).setCell ⟨gb216, 3, none⟩ (.int .i64 ((rd_T28 t210 x21_2).f3))).setCell ⟨gb216, 4, none⟩ (.int .i64 ((rd_T28 t210 x21_2).f4))).heap[gb209]? = some (.cells #[.slice A0_0 l0_0.length c0_0, .int .i64 a0_1] 52 (0, 0))) := ⟨by (with_reducible repeat (first | refine blk_drewN ?_ _ | refine blk_drew ?_ | refine blk_alloc ?_ _)); refine blk_far ?_ NB209_216.out _; (with_reducible repeat (first | refine blk_drewN ?_ _ | refine blk_drew ?_ | refine blk_alloc ?_ _)); refine blk_far ?_ NB209_216.out _; (with_reducible repeat (first | refine blk_drewN ?_ _ | refine blk_drew ?_ | refine blk_alloc ?_ _)); refine blk_far ?_ NB209_216.out _; (with_reducible repeat (first | refine blk_drewN ?_ _ | refine blk_drew ?_ | refine blk_alloc ?_ _)); refine blk_far ?_ NB209_216.out _; (with_reducible repeat (first | refine blk_drewN ?_ _ | refine blk_drew ?_ | refine blk_alloc ?_ _)); refine blk_far ?_ NB209_216.out _; (with_reducible repeat (first | refine blk_drewN ?_ _ | refine blk_drew ?_ | refine blk_alloc ?_ _)); exact BK209.out⟩
          have n4_ : Aside0 ((((((w24.setCell ⟨gb216, 0, none⟩ (.int .i64 ((rd_T28 t210 x21_2).f0))).setCell ⟨gb216, 1, none⟩ (.int .i64 ((rd_T28 t210 x21_2).f1))).setCell ⟨gb216, 2, none⟩ (.int .i64 ((rd_T28 t210 x21_2).f2))).setCell ⟨gb216, 3, none⟩ (.int .i64 ((rd_T28 t210 x21_2).f3))).setCell ⟨gb216, 4, none⟩ (.int .i64 ((rd_T28 t210 x21_2).f4))).heap[gb216]? = some (.cells #[.int .i64 ((rd_T28 t210 x21_2).f0), .int .i64 ((rd_T28 t210 x21_2).f1), .int .i64 ((rd_T28 t210 x21_2).f2), .int .i64 ((rd_T28 t210 x21_2).f3), .int .i64 ((rd_T28 t210 x21_2).f4)] 28 (0, 0))) := ⟨by (with_reducible repeat (first | refine blk_drewN ?_ _ | refine blk_drew ?_ | refine blk_alloc ?_ _)); refine blk_put (cs := #[.int .i64 ((rd_T28 t210 x21_2).f0), .int .i64 ((rd_T28 t210 x21_2).f1), .int .i64 ((rd_T28 t210 x21_2).f2), .int .i64 ((rd_T28 t210 x21_2).f3), .int .i64 0]) ?_ 4 _ rfl; (with_reducible repeat (first | refine blk_drewN ?_ _ | refine blk_drew ?_ | refine blk_alloc ?_ _)); refine blk_put (cs := #[.int .i64 ((rd_T28 t210 x21_2).f0), .int .i64 ((rd_T28 t210 x21_2).f1), .int .i64 ((rd_T28 t210 x21_2).f2), .int .i64 0, .int .i64 0]) ?_ 3 _ rfl; (with_reducible repeat (first | refine blk_drewN ?_ _ | refine blk_drew ?_ | refine blk_alloc ?_ _)); refine blk_put (cs := #[.int .i64 ((rd_T28 t210 x21_2).f0), .int .i64 ((rd_T28 t210 x21_2).f1), .int .i64 0, .int .i64 0, .int .i64 0]) ?_ 2 _ rfl; (with_reducible repeat (first | refine blk_drewN ?_ _ | refine blk_drew ?_ | refine blk_alloc ?_ _)); refine blk_put (cs := #[.int .i64 ((rd_T28 t210 x21_2).f0), .int .i64 0, .int .i64 0, .int .i64 0, .int .i64 0]) ?_ 1 _ rfl; (with_reducible repeat (first | refine blk_drewN ?_ _ | refine blk_drew ?_ | refine blk_alloc ?_ _)); refine blk_put (cs := #[.int .i64 0, .int .i64 0, .int .i64 0, .int .i64 0, .int .i64 0]) ?_ 0 _ rfl; (with_reducible repeat (first | refine blk_drewN ?_ _ | refine blk_drew ?_ | refine blk_alloc ?_ _)); exact BK216.out⟩
          have n5_ : Aside0 (Below w.heap.size w (((((w24.setCell ⟨gb216, 0, none⟩ (.int .i64 ((rd_T28 t210 x21_2).f0))).setCell ⟨gb216, 1, none⟩ (.int .i64 ((rd_T28 t210 x21_2).f1))).setCell ⟨gb216, 2, none⟩ (.int .i64 ((rd_T28 t210 x21_2).f2))).setCell ⟨gb216, 3, none⟩ (.int .i64 ((rd_T28 t210 x21_2).f3))).setCell ⟨gb216, 4, none⟩ (.int .i64 ((rd_T28 t210 x21_2).f4)))) := ⟨by repeat (first | (with_reducible first | exact HB.out | apply below_alloc | apply pw_below_drewN | apply below_drew1 | refine below_set ?_ GE209.out | refine below_set ?_ GE216.out) | exact HB.out)⟩
          (try clear HO_3)
          (try clear HO_4)
          (try clear HO_19)
          (try clear BK209)
          (try clear BK216)
          (try clear HB)
          generalize (((((w24.setCell ⟨gb216, 0, none⟩ (.int .i64 ((rd_T28 t210 x21_2).f0))).setCell ⟨gb216, 1, none⟩ (.int .i64 ((rd_T28 t210 x21_2).f1))).setCell ⟨gb216, 2, none⟩ (.int .i64 ((rd_T28 t210 x21_2).f2))).setCell ⟨gb216, 3, none⟩ (.int .i64 ((rd_T28 t210 x21_2).f3))).setCell ⟨gb216, 4, none⟩ (.int .i64 ((rd_T28 t210 x21_2).f4))) = w27 at n0_ n1_ n2_ n3_ n4_ n5_ ⊢
          have HO_3 := n0_
          have HO_4 := n1_
          have HO_19 := n2_
          have BK209 := n3_
          have BK216 := n4_
          have HB := n5_
          clear n0_ n1_ n2_ n3_ n4_ n5_
          have n0_ := Aside0.mk (Kd.R_drew HO_3.out)
          have n1_ := Aside0.mk (Kd.R_drew HO_4.out)
          have n2_ := Aside0.mk (Kd.R_drew HO_19.out)
          have n3_ := Aside0.mk (blk_drew BK209.out)
          have n4_ := Aside0.mk (blk_drew BK216.out)
          have n5_ := Aside0.mk (below_drew1 HB.out)
          clear HO_3
          clear HO_4
          clear HO_19
          clear BK209
          clear BK216
          clear HB
          have HO_3 := n0_
          have HO_4 := n1_
          have HO_19 := n2_
          have BK209 := n3_
          have BK216 := n4_
          have HB := n5_
          clear n0_ n1_ n2_ n3_ n4_ n5_
          refine start_ (n := 13) (S := fun w' => w'.cell? ⟨gb216, 0, none⟩ = some (.int .i64 ((rd_T28 t210 x21_2).f0)) ∧ w'.cell? ⟨gb216, 1, none⟩ = some (.int .i64 ((rd_T28 t210 x21_2).f1)) ∧ w'.cell? ⟨gb216, 2, none⟩ = some (.int .i64 ((rd_T28 t210 x21_2).f2)) ∧ w'.cell? ⟨gb216, 3, none⟩ = some (.int .i64 ((rd_T28 t210 x21_2).f3)) ∧ w'.cell? ⟨gb216, 4, none⟩ = some (.int .i64 ((rd_T28 t210 x21_2).f4))) (ds := []) #[false, false, false, false, false, false, false, false, false, false, false, false, false] (by kernel_rfl) rfl rfl ⟨(blk_cell BK216.out 0).trans rfl, (blk_cell BK216.out 1).trans rfl, (blk_cell BK216.out 2).trans rfl, (blk_cell BK216.out 3).trans rfl, (blk_cell BK216.out 4).trans rfl⟩ (fun hHeld => ?_); refine with_tabW probe_Report.tab8 probe_Report.bits8 (fun HT_ HW_ => ?_)
          generalize w27.drew = w28 at HO_3 HO_4 HO_19 BK209 BK216 HB hHeld ⊢
          refine pure_ (i := 0) (N := some 26) (v := ?_) (a' := ?_) #[true, false, false, false, false, false, false, false, false, false, false, false, false] rfl rfl (any_of HT_.out (by kernel_rfl)) (fun _ _ _ h => h) (Or.inl ⟨by rfl, ?_⟩) ?_ ?_
          rotate_left; (intro w'; go_simp; with_reducible rfl); rotate_left; (simp only [Act.put, List.setIfInBounds_toArray, List.set_cons_zero, List.set_cons_succ, i64_w, i32_w]; rfl)
          refine pure_ (i := 1) (N := some 27) (v := ?_) (a' := ?_) #[true, true, false, false, false, false, false, false, false, false, false, false, false] rfl rfl (any_of HT_.out (by kernel_rfl)) (fun _ _ _ h => h) (Or.inl ⟨by rfl, ?_⟩) ?_ ?_
          rotate_left; (intro w'; go_simp; with_reducible rfl); rotate_left; (simp only [Act.put, List.setIfInBounds_toArray, List.set_cons_zero, List.set_cons_succ, i64_w, i32_w]; rfl)
          refine pure_ (i := 3) (N := some 29) (v := ?_) (a' := ?_) #[true, true, false, true, false, false, false, false, false, false, false, false, false] rfl rfl (any_of HT_.out (by kernel_rfl)) (fun _ _ _ h => h) (Or.inl ⟨by rfl, ?_⟩) ?_ ?_
          rotate_left; (intro w'; go_simp; with_reducible rfl); rotate_left; (simp only [Act.put, List.setIfInBounds_toArray, List.set_cons_zero, List.set_cons_succ, i64_w, i32_w]; rfl)
          refine pure_ (i := 4) (N := some 30) (v := ?_) (a' := ?_) #[true, true, false, true, true, false, false, false, false, false, false, false, false] rfl rfl (any_of HT_.out (by kernel_rfl)) (fun _ _ _ h => h) (Or.inl ⟨by rfl, ?_⟩) ?_ ?_
          rotate_left; (intro w'; go_simp; with_reducible rfl); rotate_left; (simp only [Act.put, List.setIfInBounds_toArray, List.set_cons_zero, List.set_cons_succ, i64_w, i32_w]; rfl)
          refine pure_ (i := 6) (N := some 32) (v := ?_) (a' := ?_) #[true, true, false, true, true, false, true, false, false, false, false, false, false] rfl rfl (any_of HT_.out (by kernel_rfl)) (fun _ _ _ h => h) (Or.inl ⟨by rfl, ?_⟩) ?_ ?_
          rotate_left; (intro w'; go_simp; with_reducible rfl); rotate_left; (simp only [Act.put, List.setIfInBounds_toArray, List.set_cons_zero, List.set_cons_succ, i64_w, i32_w]; rfl)
          refine pure_ (i := 7) (N := some 33) (v := ?_) (a' := ?_) #[true, true, false, true, true, false, true, true, false, false, false, false, false] rfl rfl (any_of HT_.out (by kernel_rfl)) (fun _ _ _ h => h) (Or.inl ⟨by rfl, ?_⟩) ?_ ?_
          rotate_left; (intro w'; go_simp; with_reducible rfl); rotate_left; (simp only [Act.put, List.setIfInBounds_toArray, List.set_cons_zero, List.set_cons_succ, i64_w, i32_w]; rfl)
          refine take_ (i := 2) (N := some 28) (v := ?_) (a' := ?_) #[true, true, true, true, true, false, true, true, false, false, false, false, false] rfl rfl (take_ofW HT_.out HW_.out (by kernel_rfl)) (fun _ _ _ h => h) (Or.inl ⟨by rfl, ?_⟩) hHeld ?_ ?_
          rotate_left; (rintro w' ⟨s0, s1, s2, s3, s4⟩; go_simp; with_reducible rfl); rotate_left; (simp only [Act.put, List.setIfInBounds_toArray, List.set_cons_zero, List.set_cons_succ, i64_w, i32_w]; rfl)
          refine one_ (i := 5) (N := some 31) #[true, true, true, true, true, true, true, true, false, false, false, false, false] rfl rfl (one_of HT_.out (by kernel_rfl)) (by decide) (fun K hK => ?_)
          refine goes_ Try.func20 (by kernel_rfl) rfl #[.slice (some ad215) t210.length co17, .int .i64 x21_2] (by rfl) rfl rfl (by (try simp only [List.map_toArray, List.map_cons, List.map_nil]); first | done | rfl | (simp only [List.length_drop, List.length_take]; rfl)) ?_
          with_reducible refine (probe_MostC.calls k2 _ _ t210 x21_2 t217 _ ?side1 ?side2 A21.out).mono ?_
          (case side1 => repeat (first | exact (Kd.R_reads' HO_3.out).2.2 | (with_reducible refine Kd.C_alloc ?_ _) | (with_reducible refine Kd.C_drewN ?_ _) | (with_reducible refine Kd.C_drew ?_)))
          (case side2 => exact (Kd.R_reads' HO_3.out).2.1)
          rintro e w29 ⟨rfl, hb⟩
          refine ⟨_, rfl, ?_⟩
          have n0_ := Aside0.mk (Kd.R_below (by (with_reducible repeat (first | apply Kd.R_alloc | apply Kd.R_drewN | apply Kd.R_drew)); exact HO_3.out) hb)
          have n1_ := Aside0.mk (Kd.R_below (by (with_reducible repeat (first | apply Kd.R_alloc | apply Kd.R_drewN | apply Kd.R_drew)); exact HO_4.out) hb)
          have n2_ := Aside0.mk (Kd.R_below (by (with_reducible repeat (first | apply Kd.R_alloc | apply Kd.R_drewN | apply Kd.R_drew)); exact HO_19.out) hb)
          have n3_ := Aside0.mk (blk_below (g := gb209) (o := .cells #[.slice A0_0 l0_0.length c0_0, .int .i64 a0_1] 52 (0, 0)) (by (with_reducible repeat (first | refine blk_drewN ?_ _ | refine blk_drew ?_ | refine blk_alloc ?_ _)); exact BK209.out) hb)
          have n4_ := Aside0.mk (blk_below (g := gb216) (o := .cells #[.int .i64 ((rd_T28 t210 x21_2).f0), .int .i64 ((rd_T28 t210 x21_2).f1), .int .i64 ((rd_T28 t210 x21_2).f2), .int .i64 ((rd_T28 t210 x21_2).f3), .int .i64 ((rd_T28 t210 x21_2).f4)] 28 (0, 0)) (by (with_reducible repeat (first | refine blk_drewN ?_ _ | refine blk_drew ?_ | refine blk_alloc ?_ _)); exact BK216.out) hb)
          have n5_ := Aside0.mk (below_step (by repeat (first | (with_reducible first | exact HB.out | apply below_alloc | apply pw_below_drewN | apply below_drew1 | refine below_set ?_ GE209.out | refine below_set ?_ GE216.out) | exact HB.out)) hb)
          clear HO_3
          clear HO_4
          clear HO_19
          clear BK209
          clear BK216
          clear HB
          have HO_3 := n0_
          have HO_4 := n1_
          have HO_19 := n2_
          have BK209 := n3_
          have BK216 := n4_
          have HB := n5_
          clear n0_ n1_ n2_ n3_ n4_ n5_
          (try clear hb)
          (try clear hb2)
          (try clear hk)
          (try clear hi)
          refine hK.out _ _ ⟨(blk_cell BK216.out 0).trans rfl, (blk_cell BK216.out 1).trans rfl, (blk_cell BK216.out 2).trans rfl, (blk_cell BK216.out 3).trans rfl, (blk_cell BK216.out 4).trans rfl⟩ (fun hHeld => ?_)
          clear hK K
          refine norm_ (a' := ?_) ?_ ?_
          rotate_left; (show Act.put _ (some 31) _ = _; simp only [Act.put, List.setIfInBounds_toArray, List.set_cons_zero, List.set_cons_succ, i64_w, i32_w]; rfl)
          refine one_ (i := 8) (N := some 34) #[true, true, true, true, true, true, true, true, true, false, false, false, false] rfl rfl (one_of HT_.out (by kernel_rfl)) (by decide) (fun K hK => ?_)
          refine goes_ Try.func21 (by kernel_rfl) rfl #[.slice (some ad215) t210.length co17, .int .i64 x21_2] (by rfl) rfl rfl (by (try simp only [List.map_toArray, List.map_cons, List.map_nil]); first | done | rfl | (simp only [List.length_drop, List.length_take]; rfl)) ?_
          with_reducible refine (probe_LeastD.calls k2 _ _ t210 x21_2 t218 _ ?side1 ?side2 A22.out).mono ?_
          (case side1 => repeat (first | exact (Kd.R_reads' HO_3.out).2.2 | (with_reducible refine Kd.C_alloc ?_ _) | (with_reducible refine Kd.C_drewN ?_ _) | (with_reducible refine Kd.C_drew ?_)))
          (case side2 => exact (Kd.R_reads' HO_3.out).2.1)
          rintro e w30 ⟨rfl, hb⟩
          refine ⟨_, rfl, ?_⟩
          have n0_ := Aside0.mk (Kd.R_below (by (with_reducible repeat (first | apply Kd.R_alloc | apply Kd.R_drewN | apply Kd.R_drew)); exact HO_3.out) hb)
          have n1_ := Aside0.mk (Kd.R_below (by (with_reducible repeat (first | apply Kd.R_alloc | apply Kd.R_drewN | apply Kd.R_drew)); exact HO_4.out) hb)
          have n2_ := Aside0.mk (Kd.R_below (by (with_reducible repeat (first | apply Kd.R_alloc | apply Kd.R_drewN | apply Kd.R_drew)); exact HO_19.out) hb)
          have n3_ := Aside0.mk (blk_below (g := gb209) (o := .cells #[.slice A0_0 l0_0.length c0_0, .int .i64 a0_1] 52 (0, 0)) (by (with_reducible repeat (first | refine blk_drewN ?_ _ | refine blk_drew ?_ | refine blk_alloc ?_ _)); exact BK209.out) hb)
          have n4_ := Aside0.mk (blk_below (g := gb216) (o := .cells #[.int .i64 ((rd_T28 t210 x21_2).f0), .int .i64 ((rd_T28 t210 x21_2).f1), .int .i64 ((rd_T28 t210 x21_2).f2), .int .i64 ((rd_T28 t210 x21_2).f3), .int .i64 ((rd_T28 t210 x21_2).f4)] 28 (0, 0)) (by (with_reducible repeat (first | refine blk_drewN ?_ _ | refine blk_drew ?_ | refine blk_alloc ?_ _)); exact BK216.out) hb)
          have n5_ := Aside0.mk (below_step (by repeat (first | (with_reducible first | exact HB.out | apply below_alloc | apply pw_below_drewN | apply below_drew1 | refine below_set ?_ GE209.out | refine below_set ?_ GE216.out) | exact HB.out)) hb)
          clear HO_3
          clear HO_4
          clear HO_19
          clear BK209
          clear BK216
          clear HB
          have HO_3 := n0_
          have HO_4 := n1_
          have HO_19 := n2_
          have BK209 := n3_
          have BK216 := n4_
          have HB := n5_
          clear n0_ n1_ n2_ n3_ n4_ n5_
          (try clear hb)
          (try clear hb2)
          (try clear hk)
          (try clear hi)
          refine hK.out _ _ ⟨(blk_cell BK216.out 0).trans rfl, (blk_cell BK216.out 1).trans rfl, (blk_cell BK216.out 2).trans rfl, (blk_cell BK216.out 3).trans rfl, (blk_cell BK216.out 4).trans rfl⟩ (fun hHeld => ?_)
          clear hK K
          refine norm_ (a' := ?_) ?_ ?_
          rotate_left; (show Act.put _ (some 34) _ = _; simp only [Act.put, List.setIfInBounds_toArray, List.set_cons_zero, List.set_cons_succ, i64_w, i32_w]; rfl)
          refine pure_ (i := 9) (N := some 35) (v := ?_) (a' := ?_) #[true, true, true, true, true, true, true, true, true, true, false, false, false] rfl rfl (any_of HT_.out (by kernel_rfl)) (fun _ _ _ h => h) (Or.inl ⟨by rfl, ?_⟩) ?_ ?_
          rotate_left; (intro w'; go_simp; with_reducible rfl); rotate_left; (simp only [Act.put, List.setIfInBounds_toArray, List.set_cons_zero, List.set_cons_succ, i64_w, i32_w]; rfl)
          refine one_ (i := 10) (N := some 36) #[true, true, true, true, true, true, true, true, true, true, true, false, false] rfl rfl (one_of HT_.out (by kernel_rfl)) (by decide) (fun K hK => ?_)
          refine value_ (w1 := ?_) (v := ?_) (by rfl) rfl ?_ ?_
          rotate_left 2
          ·go_simp
           constructor
           ·rfl
           ·rfl
          refine hK.out _ _ ⟨(blk_cell (blk_alloc BK216.out _) 0).trans rfl, (blk_cell (blk_alloc BK216.out _) 1).trans rfl, (blk_cell (blk_alloc BK216.out _) 2).trans rfl, (blk_cell (blk_alloc BK216.out _) 3).trans rfl, (blk_cell (blk_alloc BK216.out _) 4).trans rfl⟩ (fun hHeld => ?_)
          clear hK K
          refine norm_ (a' := ?_) ?_ ?_
          rotate_left; (show Act.put _ (some 36) _ = _; simp only [Act.put, List.setIfInBounds_toArray, List.set_cons_zero, List.set_cons_succ, i64_w, i32_w]; rfl)
          refine one_ (i := 11) (N := some 37) #[true, true, true, true, true, true, true, true, true, true, true, true, false] rfl rfl (one_of HT_.out (by kernel_rfl)) (by decide) (fun K hK => ?_)
          refine Kd.R_append_step k87 (w0 := w) w.heap.size (by rfl) (.tmp 26) (.tmp 36) 56 87 (.agg #[(.int .i64 0), (.int .i64 0), (.int .i64 0)]) 24 rfl Try.underlying56 info87 rfl (by decide) (by omega) u4 x4_2 (⟨(rd_T28 t210 x21_2).f0, t217, t218⟩ : S87) [.int .i64 ((rd_T28 t210 x21_2).f0), .int .i64 t217, .int .i64 t218] (fun _ => True) (fun _ => False) rfl rfl ?aP (fun _ hk => hk.elim) ?aF ?aO ?aB ?aS ?aL ?_
          (case aP => exact k87_mkM _ _ _ (⟨(rd_T28 t210 x21_2).f0, t217, t218⟩ : S87))
          (case aB => exact (by repeat (first | (with_reducible first | exact HB.out | apply below_alloc | apply pw_below_drewN | apply below_drew1 | refine below_set ?_ GE209.out | refine below_set ?_ GE216.out) | exact HB.out)))
          (case aF => exact (fun _ _ => trivial))
          (case aO => exact (by (with_reducible repeat (first | apply Kd.R_alloc | apply Kd.R_drewN | apply Kd.R_drew)); exact HO_4.out))
          (case aS => exact (below_size (by repeat (first | (with_reducible first | exact HB.out | apply below_alloc | apply pw_below_drewN | apply below_drew1 | refine below_set ?_ GE209.out | refine below_set ?_ GE216.out) | exact HB.out))))
          (case aL => have := LMc23.out; omega)
          intro v220 w31 ho hb hg hat
          rw [← Ny219.out] at ho
          have n0_ := Aside0.mk (Kd.R_over' (by (with_reducible repeat (first | apply Kd.R_alloc | apply Kd.R_drewN | apply Kd.R_drew)); exact HO_3.out) (Kd.R_typed (by (with_reducible repeat (first | apply Kd.R_alloc | apply Kd.R_drewN | apply Kd.R_drew)); exact HO_4.out)) (by decide) hg)
          have n1_ := Aside0.mk (Kd.R_over' (by (with_reducible repeat (first | apply Kd.R_alloc | apply Kd.R_drewN | apply Kd.R_drew)); exact HO_19.out) (Kd.R_typed (by (with_reducible repeat (first | apply Kd.R_alloc | apply Kd.R_drewN | apply Kd.R_drew)); exact HO_4.out)) (by decide) hg)
          have n2_ := Aside0.mk (blk_grown (g := gb209) (o := .cells #[.slice A0_0 l0_0.length c0_0, .int .i64 a0_1] 52 (0, 0)) (by (with_reducible repeat (first | refine blk_drewN ?_ _ | refine blk_drew ?_ | refine blk_alloc ?_ _)); exact BK209.out) hg (Kd.R_ne HO_4.out BK209.out (by decide)))
          have n3_ := Aside0.mk (blk_grown (g := gb216) (o := .cells #[.int .i64 ((rd_T28 t210 x21_2).f0), .int .i64 ((rd_T28 t210 x21_2).f1), .int .i64 ((rd_T28 t210 x21_2).f2), .int .i64 ((rd_T28 t210 x21_2).f3), .int .i64 ((rd_T28 t210 x21_2).f4)] 28 (0, 0)) (by (with_reducible repeat (first | refine blk_drewN ?_ _ | refine blk_drew ?_ | refine blk_alloc ?_ _)); exact BK216.out) hg (Kd.R_ne HO_4.out BK216.out (by decide)))
          have n4_ := Aside0.mk (hb)
          have n5_ := Aside0.mk (ho)
          clear HO_3
          clear HO_19
          clear BK209
          clear BK216
          clear HB
          clear HO_4
          have HO_3 := n0_
          have HO_19 := n1_
          have BK209 := n2_
          have BK216 := n3_
          have HB := n4_
          have HO221 := n5_
          clear n0_ n1_ n2_ n3_ n4_ n5_
          clear ho hb hg hat
          refine hK.out _ _ ⟨(blk_cell BK216.out 0).trans rfl, (blk_cell BK216.out 1).trans rfl, (blk_cell BK216.out 2).trans rfl, (blk_cell BK216.out 3).trans rfl, (blk_cell BK216.out 4).trans rfl⟩ (fun hHeld => ?_)
          clear hK K
          refine norm_ (a' := ?_) ?_ ?_
          rotate_left; (show Act.put _ (some 37) _ = _; simp only [Act.put, List.setIfInBounds_toArray, List.set_cons_zero, List.set_cons_succ, i64_w, i32_w]; rfl)
          refine pure_ (i := 12) (N := some 4) (v := ?_) (a' := ?_) #[true, true, true, true, true, true, true, true, true, true, true, true, true] rfl rfl (any_of HT_.out (by kernel_rfl)) (fun _ _ _ h => h) (Or.inl ⟨by rfl, ?_⟩) ?_ ?_
          rotate_left; (intro w'; go_simp; with_reducible rfl); rotate_left; (simp only [Act.put, List.setIfInBounds_toArray, List.set_cons_zero, List.set_cons_succ, i64_w, i32_w]; rfl)
          refine done_ (done_of HT_.out (by kernel_rfl)) ?_
          try go_wp2
          go_roundg k2
          case measure => have := HJ2.out; have := HK2.out; omega
          case rel => exact ⟨(y219), (wrap64 (x21_2 + 1)), (by first | rfl | (simp; done) | (simp [*]; done)), H', ⟨by have := HJ2.out; have := HK2.out; omega⟩, ⟨by (with_reducible repeat (first | apply Kd.R_alloc | apply Kd.R_drewN | apply Kd.R_drew)); exact Kd.R_mono HO_3.out (fun _ hk => trivial)⟩, ⟨by (with_reducible repeat (first | apply Kd.R_alloc | apply Kd.R_drewN | apply Kd.R_drew)); exact HO221.out⟩, ⟨by (with_reducible repeat (first | apply Kd.R_alloc | apply Kd.R_drewN | apply Kd.R_drew)); exact Kd.R_mono HO_19.out (fun _ hk => trivial)⟩, ⟨by (with_reducible repeat (first | refine blk_drewN ?_ _ | refine blk_drew ?_ | refine blk_alloc ?_ _)); exact BK209.out⟩, ⟨by repeat (first | (with_reducible first | exact HB.out | apply below_alloc | apply pw_below_drewN | apply below_drew1 | refine below_set ?_ GE209.out | refine below_set ?_ GE216.out) | exact HB.out)⟩⟩
         ·rw [if_neg c23] at H
          exact absurd H (by simp)
        ·rw [if_neg c20] at H
         exact absurd H (by simp)
       ·rw [if_neg c19] at H
        exact absurd H (by simp)
      ·rw [if_neg c18] at H
       have c18b0 : decide (x21_2 < (t210.length : Int)) = false := decide_eq_false c18
       clear c18
       obtain rfl := Option.some.inj H
       go_wp2
       go_ret
       exact ⟨_, by first | rfl | (simp [errW_none, errW_some] <;> rfl) | (simp [*, errW_none, errW_some] <;> rfl), by (with_reducible repeat (first | apply Kd.R_alloc | apply Kd.R_drewN | apply Kd.R_drew)); exact HO_4.out, by repeat (first | (with_reducible first | exact HB.out | apply below_alloc | apply pw_below_drewN | apply below_drew1 | refine below_set ?_ GE209.out) | exact HB.out)⟩

end Go.Proofs.Ytmgmpifbhjoijaa.PProbeReports
