-- Made by px.py (a program of this session, over the kit's printer) out of the translation. Not trusted: Lean checks it.
import Derived.Test.YthkagoomlmgcdaaPJudgeFitsx0
import Derived.Test.YthkagoomlmgcdaaPJudgeFitsx2
namespace Go.Proofs.Ythkagoomlmgcdaa.PJudgeFits
open Go.RowKit Go.Proofs.YthkagoomlmgcdaaW.PrintWords Go.Proofs.YthkagoomlmgcdaaW.PrintLast Go.Proofs.YthkagoomlmgcdaaW.PrintMore
attribute [local go_sem] max2_int min2_int max_two min_two max_three min_three max_four min_four   -- for this text's walks alone
set_option linter.unusedVariables false
set_option linter.unusedSimpArgs false

/-! ### table_Check: function 57 (by hand) -/
/-- May a row be, behind one of a number? -/
def rowOk (p : Option Int) (r : S60) : Bool := taskB r.f0 && ((!r.f1 || r.f0.f2 == r.f0.f3) && (match p with | none => true | some q => decide (q < r.f0.f0)))
def tabGo : Option Int → List S60 → Bool
 | _, [] => true
 | p, r :: rs => rowOk p r && tabGo (some r.f0.f0) rs
/-- May a table be? -/
def tabB (l : List S60) (m : Int) : Bool := tabGo none l && (decide (l.length ≤ 16) && (decide (0 ≤ m) && decide (m < 4)))
def prevI (l : List S60) : Nat → Option Int
 | 0 => none
 | k + 1 => some (rd_T60 l (k : Int)).f0.f0
theorem tabGo_step {l : List S60} {k : Nat} (hk : k < l.length) : tabGo (prevI l k) (l.drop k) = (rowOk (prevI l k) (rd_T60 l (k : Int)) && tabGo (prevI l (k + 1)) (l.drop (k + 1))) := by
 rw [List.drop_eq_getElem_cons hk]
 simp [tabGo, prevI, rd_T60, hk]
theorem tabGo_end (l : List S60) : tabGo (prevI l l.length) (l.drop l.length) = true := by simp [tabGo]
def put6W (w : World) (g : Nat) (r : S60) : World := (((((w.setCell ⟨g, 0, none⟩ (.int .i64 r.f0.f0)).setCell ⟨g, 1, none⟩ (.int .i64 r.f0.f1)).setCell ⟨g, 2, none⟩ (.int .i64 r.f0.f2)).setCell ⟨g, 3, none⟩ (.int .i64 r.f0.f3)).setCell ⟨g, 4, none⟩ (.int .i64 r.f0.f4)).setCell ⟨g, 5, none⟩ (.bool r.f1)
theorem put6W_eq (w : World) (g : Nat) (r : S60) : (((((w.setCell ⟨g, 0, none⟩ (.int .i64 r.f0.f0)).setCell ⟨g, 1, none⟩ (.int .i64 r.f0.f1)).setCell ⟨g, 2, none⟩ (.int .i64 r.f0.f2)).setCell ⟨g, 3, none⟩ (.int .i64 r.f0.f3)).setCell ⟨g, 4, none⟩ (.int .i64 r.f0.f4)).setCell ⟨g, 5, none⟩ (.bool r.f1) = put6W w g r := rfl
theorem put6_at {w : World} {g : Nat} (h : w.heap[g]? = some (.cells #[.int .i64 0, .int .i64 0, .int .i64 0, .int .i64 0, .int .i64 0, .bool false] 60 (0, 0))) (r : S60) : (put6W w g r).heap[g]? = some (.cells #[.int .i64 r.f0.f0, .int .i64 r.f0.f1, .int .i64 r.f0.f2, .int .i64 r.f0.f3, .int .i64 r.f0.f4, .bool r.f1] 60 (0, 0)) :=
 blk_set (blk_set (blk_set (blk_set (blk_set (blk_set h 0 _) 1 _) 2 _) 3 _) 4 _) 5 _
theorem put6_far {w : World} {g b T : Nat} {cs : Array Value} (h : w.heap[b]? = some (.cells cs T (0, 0))) (hne : b ≠ g) (r : S60) : (put6W w g r).heap[b]? = some (.cells cs T (0, 0)) :=
 blk_far (p := ⟨g, 5, none⟩) (blk_far (p := ⟨g, 4, none⟩) (blk_far (p := ⟨g, 3, none⟩) (blk_far (p := ⟨g, 2, none⟩) (blk_far (p := ⟨g, 1, none⟩) (blk_far (p := ⟨g, 0, none⟩) h hne _) hne _) hne _) hne _) hne _) hne _
theorem put6_below {a w : World} {g : Nat} (h : Below a.heap.size a w) (hg : a.heap.size ≤ g) (r : S60) : Below a.heap.size a (put6W w g r) :=
 below_set (below_set (below_set (below_set (below_set (below_set h hg) hg) hg) hg) hg) hg
theorem not_dec {p q : Prop} [Decidable p] [Decidable q] (h : p ↔ ¬ q) : decide p = !decide q := by by_cases hq : q <;> simp [h, hq]
theorem lastD {l : List S60} {x y : S60} {j : Nat} (h1 : taskB x.f0 = true) (h2 : x.f1 = true) (h3 : rd_T60 l (j : Int) = y) (h4 : (x.f0.f2 == x.f0.f3) = true) : rowOk (prevI l (j + 1)) x = !decide (x.f0.f0 ≤ y.f0.f0) := by
 simp only [rowOk, prevI, h1, h2, h3, h4, Bool.true_and, Bool.not_true, Bool.false_or]
 exact not_dec (by omega)
theorem lastF {l : List S60} {x y : S60} {j : Nat} (h1 : taskB x.f0 = true) (h2 : x.f1 = false) (h3 : rd_T60 l (j : Int) = y) : rowOk (prevI l (j + 1)) x = !decide (x.f0.f0 ≤ y.f0.f0) := by
 simp only [rowOk, prevI, h1, h2, h3, Bool.true_and, Bool.not_false, Bool.true_or]
 exact not_dec (by omega)
/-- The first j of n operations have come up. -/
def pre_ (n j : Nat) : Array Bool := (List.replicate j true ++ List.replicate (n - j) false).toArray
theorem pureJ_ {P : Program} {ops : Array Oper} {md : Region.Mode} {S : World → Prop} {Q : Exit → Act → World → Prop} {ds : List Nat} {n i j' : Nat} {N : Option Tmp} {oi : Oper} {v : Value} {fuel : Nat} {a : Act} {w : World} (hi : ops.toList[i]? = some oi) (hN : oi.dst = N) (hc : anyB md ops (pre_ n i) (pre_ n (i + 1)) i = true)
  (hQ : ∀ c a w, Q (.panic c) (a.put oi.dst v) w → Q (.panic c) a w) (hj : i + 1 = j') (hy : Yields P ops oi v a) {a' : Act} (ha : a.put N v = a')
  (h : wpAnyLast P md ops Q S ds fuel (pre_ n j') a' w) : wpAnyLast P md ops Q S ds (fuel + 1) (pre_ n i) a w := by
 subst hj
 exact pure_ (pre_ n (i + 1)) (by rw [← Array.getElem?_toList]; exact hi) hN hc hQ hy ha h
theorem takeJ_ {P : Program} {ops : Array Oper} {md : Region.Mode} {S : World → Prop} {Q : Exit → Act → World → Prop} {ds : List Nat} {n i j' : Nat} {N : Option Tmp} {oi : Oper} {v : Value} {fuel : Nat} {a : Act} {w : World} (hi : ops.toList[i]? = some oi) (hN : oi.dst = N) (hc : takeB md ops ds (pre_ n i) (pre_ n (i + 1)) i = true)
  (hQ : ∀ c a w, Q (.panic c) (a.put oi.dst v) w → Q (.panic c) a w) (hj : i + 1 = j') (hy : YieldsIf P ops S oi v a) (hS : S w) {a' : Act} (ha : a.put N v = a')
  (h : wpAnyLast P md ops Q S ds fuel (pre_ n j') a' w) : wpAnyLast P md ops Q S ds (fuel + 1) (pre_ n i) a w := by
 subst hj
 exact take_ (pre_ n (i + 1)) (by rw [← Array.getElem?_toList]; exact hi) hN hc hQ hy hS ha h
/-- The operations of a region that have come up, by the bits of a number. -/
def ms_ (n m : Nat) : Array Bool := ((List.range n).map m.testBit).toArray
-- param_Check param_Row
def table_Check.f (l0_0 : List S60) (a0_1 : Int) : Option Bool := some (tabB l0_0 a0_1)
def table_Check.T4 : Bool × List (List Nat × List Nat) := (true, [([], []), ([0], [0]), ([1], [1]), ([2], [2]), ([3, 2], [3]), ([4], [4]), ([5, 4], [4, 5]), ([6, 4, 4], [4, 6]), ([7], [7]), ([8, 7], [7, 8]), ([9, 7], [7, 9]), ([7], [7]), ([11, 7], [7, 11]), ([12, 7], [7, 12]), ([10, 13, 7], [7, 10, 13]), ([7, 14, 4], [4, 7, 14]), ([4, 15], [4, 15]), ([16, 7], [16]), ([17], [17]), ([18, 17], [17, 18]), ([19, 17, 17], [17, 19]), ([20], [20]), ([21, 20], [20, 21]), ([20], [20]), ([23, 20], [20, 23]), ([22, 24, 20], [20, 22, 24]), ([25, 20], [20, 25]), ([26, 20], [20, 26]), ([27, 20], [20, 27]), ([20], [20]), ([29, 20], [20, 29]), ([30, 20], [20, 30]), ([28, 31, 20], [20, 28, 31]), ([20, 32, 17], [17, 20, 32]), ([17, 33], [17, 33])])
def table_Check.B4 : List Nat := [0, 1, 3, 7, 15, 31, 63, 127, 255, 511, 1023, 255, 2303, 6399, 16383, 32767, 65535, 131071, 262143, 524287, 1048575, 2097151, 4194303, 2097151, 10485759, 33554431, 67108863, 134217727, 268435455, 2097151, 538968063, 1612709887, 4294967295, 8589934591, 17179869183]
theorem table_Check.tab4 : rtab .any (opsOf Try.f57 4) = table_Check.T4 := by kernel_rfl
theorem table_Check.bits4 : waitsOk table_Check.T4.2 table_Check.B4 = true := by kernel_rfl
set_option maxHeartbeats 16000000 in
set_option maxRecDepth 100000 in
theorem table_Check.calls (A0_0 : Option Addr) (c0_0 : Nat) (l0_0 : List S60) (a0_1 : Int) (r : Bool) (w : World) (hr0_0 : Kd.C k60 w A0_0 l0_0.length l0_0) (hc0_0 : l0_0.length ≤ c0_0) (h : table_Check.f l0_0 a0_1 = some r) :
  Calls Try.prog 57 #[.agg #[.slice A0_0 l0_0.length c0_0, .int .i64 a0_1]] w fun e w' => e = .returned (.bool r) ∧ Below w.heap.size w w' := by
 have hu52 := Try.underlying46
 have hu54 := Try.underlying60
 have hu28 := Try.underlying31
 have hmax : l0_0.length ≤ 9223372036854775807 := Kd.C_max hr0_0
 have HR0 := Aside0.mk hr0_0
 have HC0 := Aside0.mk hc0_0
 clear hr0_0 hc0_0
 obtain rfl := Option.some.inj h
 clear h
 have HB := Aside0.mk (Below.refl w.heap.size w)
 go_enter Try.func57, Try.ntmps57
 go_wp2_with ((with_reducible refine gate_dst (N := 1) rfl ?_); refine box_event ?hg (N := 1) ?hd (cs := #[.slice A0_0 l0_0.length c0_0, .int .i64 a0_1]) (t := 46) ?hr ?_; (case hd => rfl); (case hg => rfl); (case hr => first | (go_simp; done) | (go_simp; rfl)); intro gt hg w2 hbox hb; have n0_ := Aside0.mk (below_step HB.out hb); have BK := Aside0.mk hbox; have GE := Aside0.mk (show w.heap.size ≤ gt by rw [hg]; exact Nat.le_refl _); clear HB; have HB := n0_; clear n0_; clear hb hbox hg; have hcz0 : w2.cell? ⟨gt, 0, none⟩ = some (.slice A0_0 l0_0.length c0_0) := (blk_cell BK.out 0).trans rfl; have hcz1 : w2.cell? ⟨gt, 1, none⟩ = some (.int .i64 a0_1) := (blk_cell BK.out 1).trans rfl)
 go_loopw [8] (fun v8 wr => ∃ k : Nat, k ≤ l0_0.length ∧ v8 = .int .i64 k ∧ Aside0 (tabGo none l0_0 = tabGo (prevI l0_0 k) (l0_0.drop k)) ∧ Aside0 (wr.heap[gt]? = some (.cells #[.slice A0_0 l0_0.length c0_0, .int .i64 a0_1] 46 (0, 0))) ∧ Aside0 (Below w.heap.size w wr)) (fun v8 _ => l0_0.length - (intOf v8).toNat)
 case atStart => exact ⟨0, Nat.zero_le _, rfl, ⟨rfl⟩, BK, HB⟩
 case round =>
  try clear hcz0
  try clear hcz1
  clear BK HB
  obtain ⟨k, hk, rfl, HG, BK, HB⟩ := hrel
  have hcz0 : wr.cell? ⟨gt, 0, none⟩ = some (.slice A0_0 l0_0.length c0_0) := (blk_cell BK.out 0).trans rfl
  have hcz1 : wr.cell? ⟨gt, 1, none⟩ = some (.int .i64 a0_1) := (blk_cell BK.out 1).trans rfl
  by_cases hlt : k < l0_0.length
  ·have p0 : (0 : Int) ≤ (k : Int) := by omega
   have q0 : (k : Int) < (l0_0.length : Int) := by omega
   obtain ⟨ad, e0, hx0, hx1, hx2, hx3, hx4, hx5⟩ := at_T60 HR0.out k p0 q0
   cases e0
   replace hx0 := (HB.out.cell (World.block_lt_of_cell? w _ hx0)).trans hx0
   replace hx1 := (HB.out.cell (World.block_lt_of_cell? w _ hx1)).trans hx1
   replace hx2 := (HB.out.cell (World.block_lt_of_cell? w _ hx2)).trans hx2
   replace hx3 := (HB.out.cell (World.block_lt_of_cell? w _ hx3)).trans hx3
   replace hx4 := (HB.out.cell (World.block_lt_of_cell? w _ hx4)).trans hx4
   replace hx5 := (HB.out.cell (World.block_lt_of_cell? w _ hx5)).trans hx5
   simp only [Int.toNat_natCast] at hx0 hx1 hx2 hx3 hx4 hx5
   have HS := Aside0.mk (tabGo_step hlt)
   obtain ⟨x, hx⟩ : ∃ x, rd_T60 l0_0 (k : Int) = x := ⟨_, rfl⟩
   rw [hx] at hx0 hx1 hx2 hx3 hx4 hx5 HS
   have HX := Aside0.mk hx
   clear hx
   go_upto_region 4 with ((with_reducible refine gate_dst (N := 4) rfl ?_); refine box_event ?hg (N := 4) ?hd (cs := #[.int .i64 0, .int .i64 0, .int .i64 0, .int .i64 0, .int .i64 0, .bool false]) (t := 60) ?hr ?_; (case hd => rfl); (case hg => rfl); (case hr => first | (go_simp; done) | (go_simp; rfl)); intro g4 hg w8 hbox hb; have n0_ := Aside0.mk (blk_below BK.out hb); have n1_ := Aside0.mk (below_step HB.out hb); have B4 := Aside0.mk hbox; have G4 := Aside0.mk (show w.heap.size ≤ g4 by rw [hg]; exact below_size HB.out); have N4 := Aside0.mk (show gt ≠ g4 by rw [hg]; exact Nat.ne_of_lt (blk_lt BK.out)); clear BK HB hcz0 hcz1; have BK := n0_; have HB := n1_; clear n0_ n1_; clear hb hbox hg; have hnb := N4.out; have hnc := Ne.symm N4.out; have z0 : w8.cell? ⟨g4, 0, none⟩ = some (.int .i64 0) := (blk_cell B4.out 0).trans rfl; have z1 : w8.cell? ⟨g4, 1, none⟩ = some (.int .i64 0) := (blk_cell B4.out 1).trans rfl; have z2 : w8.cell? ⟨g4, 2, none⟩ = some (.int .i64 0) := (blk_cell B4.out 2).trans rfl; have z3 : w8.cell? ⟨g4, 3, none⟩ = some (.int .i64 0) := (blk_cell B4.out 3).trans rfl; have z4 : w8.cell? ⟨g4, 4, none⟩ = some (.int .i64 0) := (blk_cell B4.out 4).trans rfl; have z5 : w8.cell? ⟨g4, 5, none⟩ = some (.bool false) := (blk_cell B4.out 5).trans rfl; have y0 := blk_frozen B4.out 0; have y1 := blk_frozen B4.out 1; have y2 := blk_frozen B4.out 2; have y3 := blk_frozen B4.out 3; have y4 := blk_frozen B4.out 4; have y5 := blk_frozen B4.out 5)
   (try simp only [Act.put, List.setIfInBounds_toArray, List.set_cons_zero, List.set_cons_succ])
   rw [put6W_eq w8 g4 x]
   have n0_ := Aside0.mk (put6_far BK.out N4.out x)
   have n1_ := Aside0.mk (put6_at B4.out x)
   have n2_ := Aside0.mk (put6_below HB.out G4.out x)
   clear BK B4 HB hx0 hx1 hx2 hx3 hx4 hx5 z0 z1 z2 z3 z4 z5 y0 y1 y2 y3 y4 y5 hnb hnc
   have BK := n0_
   have B4 := n1_
   have HB := n2_
   clear n0_ n1_ n2_
   generalize put6W w8 g4 x = W at BK B4 HB ⊢
   have t0 : W.cell? ⟨gt, 0, none⟩ = some (.slice (some ad) l0_0.length c0_0) := (blk_cell BK.out 0).trans rfl
   have s0 : W.cell? ⟨g4, 0, none⟩ = some (.int .i64 x.f0.f0) := (blk_cell B4.out 0).trans rfl
   have s1 : W.cell? ⟨g4, 1, none⟩ = some (.int .i64 x.f0.f1) := (blk_cell B4.out 1).trans rfl
   have s2 : W.cell? ⟨g4, 2, none⟩ = some (.int .i64 x.f0.f2) := (blk_cell B4.out 2).trans rfl
   have s3 : W.cell? ⟨g4, 3, none⟩ = some (.int .i64 x.f0.f3) := (blk_cell B4.out 3).trans rfl
   have s4 : W.cell? ⟨g4, 4, none⟩ = some (.int .i64 x.f0.f4) := (blk_cell B4.out 4).trans rfl
   have s5 : W.cell? ⟨g4, 5, none⟩ = some (.bool x.f1) := (blk_cell B4.out 5).trans rfl
   have HCK := Aside0.mk (check_eq x.f0)
   go_cut [47] (fun v47 wc => ∃ b : Bool, v47 = .bool b ∧ Aside0 (rowOk (prevI l0_0 k) x = !b) ∧ Aside0 (wc.heap[gt]? = some (.cells #[.slice (some ad) l0_0.length c0_0, .int .i64 a0_1] 46 (0, 0))) ∧ Aside0 (Below w.heap.size w wc))
   case first =>
    obtain ⟨sv, hsv⟩ : ∃ sv, x.f1 = sv := ⟨_, rfl⟩
    rw [hsv] at s5 B4
    have HSV := Aside0.mk hsv
    clear hsv
    cases hb1 : taskB x.f0 with
    | false =>
     rw [hb1] at HCK
     have HT1 := Aside0.mk hb1
     clear hb1
     refine start_ (n := 35) (S := fun w' => w'.cell? ⟨g4, 0, none⟩ = some (.int .i64 x.f0.f0) ∧ w'.cell? ⟨g4, 1, none⟩ = some (.int .i64 x.f0.f1) ∧ w'.cell? ⟨g4, 2, none⟩ = some (.int .i64 x.f0.f2) ∧ w'.cell? ⟨g4, 3, none⟩ = some (.int .i64 x.f0.f3) ∧ w'.cell? ⟨g4, 4, none⟩ = some (.int .i64 x.f0.f4) ∧ w'.cell? ⟨g4, 5, none⟩ = some (.bool sv) ∧ w'.cell? ⟨gt, 0, none⟩ = some (.slice (some ad) l0_0.length c0_0)) (ds := []) (pre_ 35 0) (by kernel_rfl) rfl rfl ⟨s0, s1, s2, s3, s4, s5, t0⟩ (fun hHeld => ?_); refine with_tabW table_Check.tab4 table_Check.bits4 (fun HT_ HW_ => ?_)
     iterate 2 (first
      | (refine pureJ_ (v := undef) (a' := ?_) rfl rfl (any_of HT_.out (by kernel_rfl)) (fun _ _ _ h => h) (by (try simp only [Nat.reduceAdd]); first | done | rfl) (Or.inr ⟨by rfl, rfl⟩) ?_ ?_; rotate_left; (simp only [Act.put, List.setIfInBounds_toArray, List.set_cons_zero, List.set_cons_succ, i64_w, i32_w]; rfl))
      | (refine pureJ_ (v := ?_) (a' := ?_) rfl rfl (any_of HT_.out (by kernel_rfl)) (fun _ _ _ h => h) (by (try simp only [Nat.reduceAdd]); first | done | rfl) (Or.inl ⟨by rfl, ?_⟩) ?_ ?_; rotate_left; (intro w'; go_simp; with_reducible rfl); rotate_left; (simp only [Act.put, List.setIfInBounds_toArray, List.set_cons_zero, List.set_cons_succ, i64_w, i32_w]; rfl))
      | (refine takeJ_ (v := ?_) (a' := ?_) rfl rfl (take_ofW HT_.out HW_.out (by kernel_rfl)) (fun _ _ _ h => h) (by (try simp only [Nat.reduceAdd]); first | done | rfl) (Or.inl ⟨by rfl, ?_⟩) hHeld ?_ ?_; rotate_left; (rintro w' ⟨s0_, s1_, s2_, s3_, s4_, s5_, s6_⟩; go_simp; with_reducible rfl); rotate_left; (simp only [Act.put, List.setIfInBounds_toArray, List.set_cons_zero, List.set_cons_succ, i64_w, i32_w]; rfl)))
     refine one_ (i := 2) (N := some 15) (pre_ 35 3) rfl rfl (one_of HT_.out (by kernel_rfl)) (by decide) (fun K hK => ?_)
     refine goes_ Try.func50 (by kernel_rfl) rfl #[.agg #[.int .i64 x.f0.f0, .int .i64 x.f0.f1, .int .i64 x.f0.f2, .int .i64 x.f0.f3, .int .i64 x.f0.f4]] (by rfl) rfl rfl (by (try simp only [List.map_toArray, List.map_cons, List.map_nil]); first | done | rfl) ?_
     with_reducible refine (param_Check.calls x.f0.f0 x.f0.f1 x.f0.f2 x.f0.f3 x.f0.f4 _ _ HCK.out).mono ?_
     rintro e w9 ⟨rfl, hb9⟩
     refine ⟨_, rfl, ?_⟩
     have HB9 := Aside0.mk (below_step (below_drew1 HB.out) hb9)
     have BK9 := Aside0.mk (blk_below (blk_drew BK.out) hb9)
     have B9 := Aside0.mk (blk_below (blk_drew B4.out) hb9)
     clear hb9
     refine hK.out _ _ ⟨(blk_cell B9.out 0).trans rfl, (blk_cell B9.out 1).trans rfl, (blk_cell B9.out 2).trans rfl, (blk_cell B9.out 3).trans rfl, (blk_cell B9.out 4).trans rfl, (blk_cell B9.out 5).trans rfl, (blk_cell BK9.out 0).trans rfl⟩ (fun hHeld => ?_)
     clear hK K
     refine norm_ (a' := ?_) ?_ ?_
     rotate_left; (show Act.put _ (some 15) _ = _; simp only [Act.put, List.setIfInBounds_toArray, List.set_cons_zero, List.set_cons_succ, i64_w, i32_w]; rfl)
     iterate 32 (first
      | (refine pureJ_ (v := undef) (a' := ?_) rfl rfl (any_of HT_.out (by kernel_rfl)) (fun _ _ _ h => h) (by (try simp only [Nat.reduceAdd]); first | done | rfl) (Or.inr ⟨by rfl, rfl⟩) ?_ ?_; rotate_left; (simp only [Act.put, List.setIfInBounds_toArray, List.set_cons_zero, List.set_cons_succ, i64_w, i32_w]; rfl))
      | (refine pureJ_ (v := ?_) (a' := ?_) rfl rfl (any_of HT_.out (by kernel_rfl)) (fun _ _ _ h => h) (by (try simp only [Nat.reduceAdd]); first | done | rfl) (Or.inl ⟨by rfl, ?_⟩) ?_ ?_; rotate_left; (intro w'; go_simp; with_reducible rfl); rotate_left; (simp only [Act.put, List.setIfInBounds_toArray, List.set_cons_zero, List.set_cons_succ, i64_w, i32_w]; rfl))
      | (refine takeJ_ (v := ?_) (a' := ?_) rfl rfl (take_ofW HT_.out HW_.out (by kernel_rfl)) (fun _ _ _ h => h) (by (try simp only [Nat.reduceAdd]); first | done | rfl) (Or.inl ⟨by rfl, ?_⟩) hHeld ?_ ?_; rotate_left; (rintro w' ⟨s0_, s1_, s2_, s3_, s4_, s5_, s6_⟩; go_simp; with_reducible rfl); rotate_left; (simp only [Act.put, List.setIfInBounds_toArray, List.set_cons_zero, List.set_cons_succ, i64_w, i32_w]; rfl)))
     refine done_ (done_of HT_.out (by kernel_rfl)) ?_
     try go_wp2
     go_meet
     case rel => exact ⟨_, rfl, ⟨by simp [rowOk, HT1.out]⟩, BK9, HB9⟩
    | true =>
     rw [hb1] at HCK
     have HT1 := Aside0.mk hb1
     clear hb1
     cases sv with
     | true =>
      by_cases hD : x.f0.f2 = x.f0.f3
      ·have hd1 : (x.f0.f2 != x.f0.f3) = false := bne_eq_false_iff_eq.mpr hD
       have hd0 : (x.f0.f2 == x.f0.f3) = true := beq_iff_eq.mpr hD
       have HD := Aside0.mk hD
       clear hD
       cases k with
       | zero =>
        have hk0 : decide ((0 : Int) < ((0 : Nat) : Int)) = false := rfl
        refine start_ (n := 35) (S := fun w' => w'.cell? ⟨g4, 0, none⟩ = some (.int .i64 x.f0.f0) ∧ w'.cell? ⟨g4, 1, none⟩ = some (.int .i64 x.f0.f1) ∧ w'.cell? ⟨g4, 2, none⟩ = some (.int .i64 x.f0.f2) ∧ w'.cell? ⟨g4, 3, none⟩ = some (.int .i64 x.f0.f3) ∧ w'.cell? ⟨g4, 4, none⟩ = some (.int .i64 x.f0.f4) ∧ w'.cell? ⟨g4, 5, none⟩ = some (.bool true) ∧ w'.cell? ⟨gt, 0, none⟩ = some (.slice (some ad) l0_0.length c0_0)) (ds := []) (pre_ 35 0) (by kernel_rfl) rfl rfl ⟨s0, s1, s2, s3, s4, s5, t0⟩ (fun hHeld => ?_); refine with_tabW table_Check.tab4 table_Check.bits4 (fun HT_ HW_ => ?_)
        iterate 2 (first
         | (refine pureJ_ (v := undef) (a' := ?_) rfl rfl (any_of HT_.out (by kernel_rfl)) (fun _ _ _ h => h) (by (try simp only [Nat.reduceAdd]); first | done | rfl) (Or.inr ⟨by rfl, rfl⟩) ?_ ?_; rotate_left; (simp only [Act.put, List.setIfInBounds_toArray, List.set_cons_zero, List.set_cons_succ, i64_w, i32_w]; rfl))
         | (refine pureJ_ (v := ?_) (a' := ?_) rfl rfl (any_of HT_.out (by kernel_rfl)) (fun _ _ _ h => h) (by (try simp only [Nat.reduceAdd]); first | done | rfl) (Or.inl ⟨by rfl, ?_⟩) ?_ ?_; rotate_left; (intro w'; go_simp; with_reducible rfl); rotate_left; (simp only [Act.put, List.setIfInBounds_toArray, List.set_cons_zero, List.set_cons_succ, i64_w, i32_w]; rfl))
         | (refine takeJ_ (v := ?_) (a' := ?_) rfl rfl (take_ofW HT_.out HW_.out (by kernel_rfl)) (fun _ _ _ h => h) (by (try simp only [Nat.reduceAdd]); first | done | rfl) (Or.inl ⟨by rfl, ?_⟩) hHeld ?_ ?_; rotate_left; (rintro w' ⟨s0_, s1_, s2_, s3_, s4_, s5_, s6_⟩; go_simp; with_reducible rfl); rotate_left; (simp only [Act.put, List.setIfInBounds_toArray, List.set_cons_zero, List.set_cons_succ, i64_w, i32_w]; rfl)))
        refine one_ (i := 2) (N := some 15) (pre_ 35 3) rfl rfl (one_of HT_.out (by kernel_rfl)) (by decide) (fun K hK => ?_)
        refine goes_ Try.func50 (by kernel_rfl) rfl #[.agg #[.int .i64 x.f0.f0, .int .i64 x.f0.f1, .int .i64 x.f0.f2, .int .i64 x.f0.f3, .int .i64 x.f0.f4]] (by rfl) rfl rfl (by (try simp only [List.map_toArray, List.map_cons, List.map_nil]); first | done | rfl) ?_
        with_reducible refine (param_Check.calls x.f0.f0 x.f0.f1 x.f0.f2 x.f0.f3 x.f0.f4 _ _ HCK.out).mono ?_
        rintro e w9 ⟨rfl, hb9⟩
        refine ⟨_, rfl, ?_⟩
        have HB9 := Aside0.mk (below_step (below_drew1 HB.out) hb9)
        have BK9 := Aside0.mk (blk_below (blk_drew BK.out) hb9)
        have B9 := Aside0.mk (blk_below (blk_drew B4.out) hb9)
        clear hb9
        refine hK.out _ _ ⟨(blk_cell B9.out 0).trans rfl, (blk_cell B9.out 1).trans rfl, (blk_cell B9.out 2).trans rfl, (blk_cell B9.out 3).trans rfl, (blk_cell B9.out 4).trans rfl, (blk_cell B9.out 5).trans rfl, (blk_cell BK9.out 0).trans rfl⟩ (fun hHeld => ?_)
        clear hK K
        refine norm_ (a' := ?_) ?_ ?_
        rotate_left; (show Act.put _ (some 15) _ = _; simp only [Act.put, List.setIfInBounds_toArray, List.set_cons_zero, List.set_cons_succ, i64_w, i32_w]; rfl)
        iterate 32 (first
         | (refine pureJ_ (v := undef) (a' := ?_) rfl rfl (any_of HT_.out (by kernel_rfl)) (fun _ _ _ h => h) (by (try simp only [Nat.reduceAdd]); first | done | rfl) (Or.inr ⟨by rfl, rfl⟩) ?_ ?_; rotate_left; (simp only [Act.put, List.setIfInBounds_toArray, List.set_cons_zero, List.set_cons_succ, i64_w, i32_w]; rfl))
         | (refine pureJ_ (v := ?_) (a' := ?_) rfl rfl (any_of HT_.out (by kernel_rfl)) (fun _ _ _ h => h) (by (try simp only [Nat.reduceAdd]); first | done | rfl) (Or.inl ⟨by rfl, ?_⟩) ?_ ?_; rotate_left; (intro w'; go_simp; with_reducible rfl); rotate_left; (simp only [Act.put, List.setIfInBounds_toArray, List.set_cons_zero, List.set_cons_succ, i64_w, i32_w]; rfl))
         | (refine takeJ_ (v := ?_) (a' := ?_) rfl rfl (take_ofW HT_.out HW_.out (by kernel_rfl)) (fun _ _ _ h => h) (by (try simp only [Nat.reduceAdd]); first | done | rfl) (Or.inl ⟨by rfl, ?_⟩) hHeld ?_ ?_; rotate_left; (rintro w' ⟨s0_, s1_, s2_, s3_, s4_, s5_, s6_⟩; go_simp; with_reducible rfl); rotate_left; (simp only [Act.put, List.setIfInBounds_toArray, List.set_cons_zero, List.set_cons_succ, i64_w, i32_w]; rfl)))
        refine done_ (done_of HT_.out (by kernel_rfl)) ?_
        try go_wp2
        go_meet
        case rel => exact ⟨_, rfl, ⟨by simp [rowOk, prevI, HT1.out, HSV.out, HD.out]⟩, BK9, HB9⟩
       | succ j =>
        have hj0 : (0 : Int) ≤ (j : Int) := by omega
        have hj1 : (j : Int) < (l0_0.length : Int) := by omega
        have hjw : wrap64 (j : Int) = (j : Int) := by unfold wrap64; omega
        have hk0 : decide ((0 : Int) < ((j + 1 : Nat) : Int)) = true := decide_eq_true (by omega)
        obtain ⟨ad_, e0, hy0, hy1, hy2, hy3, hy4, hy5⟩ := at_T60 HR0.out j hj0 hj1
        obtain rfl : ad = ad_ := (by injection e0)
        simp only [Int.toNat_natCast] at hy0
        clear hy1 hy2 hy3 hy4 hy5
        have c0 := (HB.out.cell (World.block_lt_of_cell? w _ hy0)).trans hy0
        obtain ⟨y, hy⟩ : ∃ y, rd_T60 l0_0 (j : Int) = y := ⟨_, rfl⟩
        rw [hy] at hy0 c0
        have HY := Aside0.mk hy
        clear hy
        have hjt : (j : Int).toNat = j := Int.toNat_natCast j
        refine start_ (n := 35) (S := fun w' => w'.cell? ⟨g4, 0, none⟩ = some (.int .i64 x.f0.f0) ∧ w'.cell? ⟨g4, 1, none⟩ = some (.int .i64 x.f0.f1) ∧ w'.cell? ⟨g4, 2, none⟩ = some (.int .i64 x.f0.f2) ∧ w'.cell? ⟨g4, 3, none⟩ = some (.int .i64 x.f0.f3) ∧ w'.cell? ⟨g4, 4, none⟩ = some (.int .i64 x.f0.f4) ∧ w'.cell? ⟨g4, 5, none⟩ = some (.bool true) ∧ w'.cell? ⟨gt, 0, none⟩ = some (.slice (some ad) l0_0.length c0_0) ∧ w'.cell? (ad.add (j * 6)) = some (.int .i64 y.f0.f0)) (ds := []) (pre_ 35 0) (by kernel_rfl) rfl rfl ⟨s0, s1, s2, s3, s4, s5, t0, c0⟩ (fun hHeld => ?_); refine with_tabW table_Check.tab4 table_Check.bits4 (fun HT_ HW_ => ?_)
        iterate 2 (first
         | (refine pureJ_ (v := undef) (a' := ?_) rfl rfl (any_of HT_.out (by kernel_rfl)) (fun _ _ _ h => h) (by (try simp only [Nat.reduceAdd]); first | done | rfl) (Or.inr ⟨by rfl, rfl⟩) ?_ ?_; rotate_left; (simp only [Act.put, List.setIfInBounds_toArray, List.set_cons_zero, List.set_cons_succ, i64_w, i32_w]; rfl))
         | (refine pureJ_ (v := ?_) (a' := ?_) rfl rfl (any_of HT_.out (by kernel_rfl)) (fun _ _ _ h => h) (by (try simp only [Nat.reduceAdd]); first | done | rfl) (Or.inl ⟨by rfl, ?_⟩) ?_ ?_; rotate_left; (intro w'; go_simp; with_reducible rfl); rotate_left; (simp only [Act.put, List.setIfInBounds_toArray, List.set_cons_zero, List.set_cons_succ, i64_w, i32_w]; rfl))
         | (refine takeJ_ (v := ?_) (a' := ?_) rfl rfl (take_ofW HT_.out HW_.out (by kernel_rfl)) (fun _ _ _ h => h) (by (try simp only [Nat.reduceAdd]); first | done | rfl) (Or.inl ⟨by rfl, ?_⟩) hHeld ?_ ?_; rotate_left; (rintro w' ⟨s0_, s1_, s2_, s3_, s4_, s5_, s6_, s7_⟩; go_simp; with_reducible rfl); rotate_left; (simp only [Act.put, List.setIfInBounds_toArray, List.set_cons_zero, List.set_cons_succ, i64_w, i32_w]; rfl)))
        refine one_ (i := 2) (N := some 15) (pre_ 35 3) rfl rfl (one_of HT_.out (by kernel_rfl)) (by decide) (fun K hK => ?_)
        refine goes_ Try.func50 (by kernel_rfl) rfl #[.agg #[.int .i64 x.f0.f0, .int .i64 x.f0.f1, .int .i64 x.f0.f2, .int .i64 x.f0.f3, .int .i64 x.f0.f4]] (by rfl) rfl rfl (by (try simp only [List.map_toArray, List.map_cons, List.map_nil]); first | done | rfl) ?_
        with_reducible refine (param_Check.calls x.f0.f0 x.f0.f1 x.f0.f2 x.f0.f3 x.f0.f4 _ _ HCK.out).mono ?_
        rintro e w9 ⟨rfl, hb9⟩
        refine ⟨_, rfl, ?_⟩
        have HB9 := Aside0.mk (below_step (below_drew1 HB.out) hb9)
        have BK9 := Aside0.mk (blk_below (blk_drew BK.out) hb9)
        have B9 := Aside0.mk (blk_below (blk_drew B4.out) hb9)
        clear hb9
        refine hK.out _ _ ⟨(blk_cell B9.out 0).trans rfl, (blk_cell B9.out 1).trans rfl, (blk_cell B9.out 2).trans rfl, (blk_cell B9.out 3).trans rfl, (blk_cell B9.out 4).trans rfl, (blk_cell B9.out 5).trans rfl, (blk_cell BK9.out 0).trans rfl, (HB9.out.cell (World.block_lt_of_cell? w _ hy0)).trans hy0⟩ (fun hHeld => ?_)
        clear hK K
        refine norm_ (a' := ?_) ?_ ?_
        rotate_left; (show Act.put _ (some 15) _ = _; simp only [Act.put, List.setIfInBounds_toArray, List.set_cons_zero, List.set_cons_succ, i64_w, i32_w]; rfl)
        iterate 32 (first
         | (refine pureJ_ (v := undef) (a' := ?_) rfl rfl (any_of HT_.out (by kernel_rfl)) (fun _ _ _ h => h) (by (try simp only [Nat.reduceAdd]); first | done | rfl) (Or.inr ⟨by rfl, rfl⟩) ?_ ?_; rotate_left; (simp only [Act.put, List.setIfInBounds_toArray, List.set_cons_zero, List.set_cons_succ, i64_w, i32_w]; rfl))
         | (refine pureJ_ (v := ?_) (a' := ?_) rfl rfl (any_of HT_.out (by kernel_rfl)) (fun _ _ _ h => h) (by (try simp only [Nat.reduceAdd]); first | done | rfl) (Or.inl ⟨by rfl, ?_⟩) ?_ ?_; rotate_left; (intro w'; go_simp; with_reducible rfl); rotate_left; (simp only [Act.put, List.setIfInBounds_toArray, List.set_cons_zero, List.set_cons_succ, i64_w, i32_w]; rfl))
         | (refine takeJ_ (v := ?_) (a' := ?_) rfl rfl (take_ofW HT_.out HW_.out (by kernel_rfl)) (fun _ _ _ h => h) (by (try simp only [Nat.reduceAdd]); first | done | rfl) (Or.inl ⟨by rfl, ?_⟩) hHeld ?_ ?_; rotate_left; (rintro w' ⟨s0_, s1_, s2_, s3_, s4_, s5_, s6_, s7_⟩; go_simp; with_reducible rfl); rotate_left; (simp only [Act.put, List.setIfInBounds_toArray, List.set_cons_zero, List.set_cons_succ, i64_w, i32_w]; rfl)))
        refine done_ (done_of HT_.out (by kernel_rfl)) ?_
        try go_wp2
        go_meet
        case rel => exact ⟨_, rfl, ⟨lastD HT1.out HSV.out HY.out hd0⟩, BK9, HB9⟩
      ·have hd1 : (x.f0.f2 != x.f0.f3) = true := bne_iff_ne.mpr hD
       have hd0 : (x.f0.f2 == x.f0.f3) = false := beq_eq_false_iff_ne.mpr hD
       have HD := Aside0.mk hD
       clear hD
       refine start_ (n := 35) (S := fun w' => w'.cell? ⟨g4, 0, none⟩ = some (.int .i64 x.f0.f0) ∧ w'.cell? ⟨g4, 1, none⟩ = some (.int .i64 x.f0.f1) ∧ w'.cell? ⟨g4, 2, none⟩ = some (.int .i64 x.f0.f2) ∧ w'.cell? ⟨g4, 3, none⟩ = some (.int .i64 x.f0.f3) ∧ w'.cell? ⟨g4, 4, none⟩ = some (.int .i64 x.f0.f4) ∧ w'.cell? ⟨g4, 5, none⟩ = some (.bool true) ∧ w'.cell? ⟨gt, 0, none⟩ = some (.slice (some ad) l0_0.length c0_0)) (ds := []) (pre_ 35 0) (by kernel_rfl) rfl rfl ⟨s0, s1, s2, s3, s4, s5, t0⟩ (fun hHeld => ?_); refine with_tabW table_Check.tab4 table_Check.bits4 (fun HT_ HW_ => ?_)
       iterate 2 (first
        | (refine pureJ_ (v := undef) (a' := ?_) rfl rfl (any_of HT_.out (by kernel_rfl)) (fun _ _ _ h => h) (by (try simp only [Nat.reduceAdd]); first | done | rfl) (Or.inr ⟨by rfl, rfl⟩) ?_ ?_; rotate_left; (simp only [Act.put, List.setIfInBounds_toArray, List.set_cons_zero, List.set_cons_succ, i64_w, i32_w]; rfl))
        | (refine pureJ_ (v := ?_) (a' := ?_) rfl rfl (any_of HT_.out (by kernel_rfl)) (fun _ _ _ h => h) (by (try simp only [Nat.reduceAdd]); first | done | rfl) (Or.inl ⟨by rfl, ?_⟩) ?_ ?_; rotate_left; (intro w'; go_simp; with_reducible rfl); rotate_left; (simp only [Act.put, List.setIfInBounds_toArray, List.set_cons_zero, List.set_cons_succ, i64_w, i32_w]; rfl))
        | (refine takeJ_ (v := ?_) (a' := ?_) rfl rfl (take_ofW HT_.out HW_.out (by kernel_rfl)) (fun _ _ _ h => h) (by (try simp only [Nat.reduceAdd]); first | done | rfl) (Or.inl ⟨by rfl, ?_⟩) hHeld ?_ ?_; rotate_left; (rintro w' ⟨s0_, s1_, s2_, s3_, s4_, s5_, s6_⟩; go_simp; with_reducible rfl); rotate_left; (simp only [Act.put, List.setIfInBounds_toArray, List.set_cons_zero, List.set_cons_succ, i64_w, i32_w]; rfl)))
       refine one_ (i := 2) (N := some 15) (pre_ 35 3) rfl rfl (one_of HT_.out (by kernel_rfl)) (by decide) (fun K hK => ?_)
       refine goes_ Try.func50 (by kernel_rfl) rfl #[.agg #[.int .i64 x.f0.f0, .int .i64 x.f0.f1, .int .i64 x.f0.f2, .int .i64 x.f0.f3, .int .i64 x.f0.f4]] (by rfl) rfl rfl (by (try simp only [List.map_toArray, List.map_cons, List.map_nil]); first | done | rfl) ?_
       with_reducible refine (param_Check.calls x.f0.f0 x.f0.f1 x.f0.f2 x.f0.f3 x.f0.f4 _ _ HCK.out).mono ?_
       rintro e w9 ⟨rfl, hb9⟩
       refine ⟨_, rfl, ?_⟩
       have HB9 := Aside0.mk (below_step (below_drew1 HB.out) hb9)
       have BK9 := Aside0.mk (blk_below (blk_drew BK.out) hb9)
       have B9 := Aside0.mk (blk_below (blk_drew B4.out) hb9)
       clear hb9
       refine hK.out _ _ ⟨(blk_cell B9.out 0).trans rfl, (blk_cell B9.out 1).trans rfl, (blk_cell B9.out 2).trans rfl, (blk_cell B9.out 3).trans rfl, (blk_cell B9.out 4).trans rfl, (blk_cell B9.out 5).trans rfl, (blk_cell BK9.out 0).trans rfl⟩ (fun hHeld => ?_)
       clear hK K
       refine norm_ (a' := ?_) ?_ ?_
       rotate_left; (show Act.put _ (some 15) _ = _; simp only [Act.put, List.setIfInBounds_toArray, List.set_cons_zero, List.set_cons_succ, i64_w, i32_w]; rfl)
       iterate 32 (first
        | (refine pureJ_ (v := undef) (a' := ?_) rfl rfl (any_of HT_.out (by kernel_rfl)) (fun _ _ _ h => h) (by (try simp only [Nat.reduceAdd]); first | done | rfl) (Or.inr ⟨by rfl, rfl⟩) ?_ ?_; rotate_left; (simp only [Act.put, List.setIfInBounds_toArray, List.set_cons_zero, List.set_cons_succ, i64_w, i32_w]; rfl))
        | (refine pureJ_ (v := ?_) (a' := ?_) rfl rfl (any_of HT_.out (by kernel_rfl)) (fun _ _ _ h => h) (by (try simp only [Nat.reduceAdd]); first | done | rfl) (Or.inl ⟨by rfl, ?_⟩) ?_ ?_; rotate_left; (intro w'; go_simp; with_reducible rfl); rotate_left; (simp only [Act.put, List.setIfInBounds_toArray, List.set_cons_zero, List.set_cons_succ, i64_w, i32_w]; rfl))
        | (refine takeJ_ (v := ?_) (a' := ?_) rfl rfl (take_ofW HT_.out HW_.out (by kernel_rfl)) (fun _ _ _ h => h) (by (try simp only [Nat.reduceAdd]); first | done | rfl) (Or.inl ⟨by rfl, ?_⟩) hHeld ?_ ?_; rotate_left; (rintro w' ⟨s0_, s1_, s2_, s3_, s4_, s5_, s6_⟩; go_simp; with_reducible rfl); rotate_left; (simp only [Act.put, List.setIfInBounds_toArray, List.set_cons_zero, List.set_cons_succ, i64_w, i32_w]; rfl)))
       refine done_ (done_of HT_.out (by kernel_rfl)) ?_
       try go_wp2
       go_meet
       case rel => exact ⟨_, rfl, ⟨by simp [rowOk, HT1.out, HSV.out, HD.out]⟩, BK9, HB9⟩
     | false =>
      cases k with
      | zero =>
       have hk0 : decide ((0 : Int) < ((0 : Nat) : Int)) = false := rfl
       refine start_ (n := 35) (S := fun w' => w'.cell? ⟨g4, 0, none⟩ = some (.int .i64 x.f0.f0) ∧ w'.cell? ⟨g4, 1, none⟩ = some (.int .i64 x.f0.f1) ∧ w'.cell? ⟨g4, 2, none⟩ = some (.int .i64 x.f0.f2) ∧ w'.cell? ⟨g4, 3, none⟩ = some (.int .i64 x.f0.f3) ∧ w'.cell? ⟨g4, 4, none⟩ = some (.int .i64 x.f0.f4) ∧ w'.cell? ⟨g4, 5, none⟩ = some (.bool false) ∧ w'.cell? ⟨gt, 0, none⟩ = some (.slice (some ad) l0_0.length c0_0)) (ds := []) (pre_ 35 0) (by kernel_rfl) rfl rfl ⟨s0, s1, s2, s3, s4, s5, t0⟩ (fun hHeld => ?_); refine with_tabW table_Check.tab4 table_Check.bits4 (fun HT_ HW_ => ?_)
       iterate 2 (first
        | (refine pureJ_ (v := undef) (a' := ?_) rfl rfl (any_of HT_.out (by kernel_rfl)) (fun _ _ _ h => h) (by (try simp only [Nat.reduceAdd]); first | done | rfl) (Or.inr ⟨by rfl, rfl⟩) ?_ ?_; rotate_left; (simp only [Act.put, List.setIfInBounds_toArray, List.set_cons_zero, List.set_cons_succ, i64_w, i32_w]; rfl))
        | (refine pureJ_ (v := ?_) (a' := ?_) rfl rfl (any_of HT_.out (by kernel_rfl)) (fun _ _ _ h => h) (by (try simp only [Nat.reduceAdd]); first | done | rfl) (Or.inl ⟨by rfl, ?_⟩) ?_ ?_; rotate_left; (intro w'; go_simp; with_reducible rfl); rotate_left; (simp only [Act.put, List.setIfInBounds_toArray, List.set_cons_zero, List.set_cons_succ, i64_w, i32_w]; rfl))
        | (refine takeJ_ (v := ?_) (a' := ?_) rfl rfl (take_ofW HT_.out HW_.out (by kernel_rfl)) (fun _ _ _ h => h) (by (try simp only [Nat.reduceAdd]); first | done | rfl) (Or.inl ⟨by rfl, ?_⟩) hHeld ?_ ?_; rotate_left; (rintro w' ⟨s0_, s1_, s2_, s3_, s4_, s5_, s6_⟩; go_simp; with_reducible rfl); rotate_left; (simp only [Act.put, List.setIfInBounds_toArray, List.set_cons_zero, List.set_cons_succ, i64_w, i32_w]; rfl)))
       refine one_ (i := 2) (N := some 15) (pre_ 35 3) rfl rfl (one_of HT_.out (by kernel_rfl)) (by decide) (fun K hK => ?_)
       refine goes_ Try.func50 (by kernel_rfl) rfl #[.agg #[.int .i64 x.f0.f0, .int .i64 x.f0.f1, .int .i64 x.f0.f2, .int .i64 x.f0.f3, .int .i64 x.f0.f4]] (by rfl) rfl rfl (by (try simp only [List.map_toArray, List.map_cons, List.map_nil]); first | done | rfl) ?_
       with_reducible refine (param_Check.calls x.f0.f0 x.f0.f1 x.f0.f2 x.f0.f3 x.f0.f4 _ _ HCK.out).mono ?_
       rintro e w9 ⟨rfl, hb9⟩
       refine ⟨_, rfl, ?_⟩
       have HB9 := Aside0.mk (below_step (below_drew1 HB.out) hb9)
       have BK9 := Aside0.mk (blk_below (blk_drew BK.out) hb9)
       have B9 := Aside0.mk (blk_below (blk_drew B4.out) hb9)
       clear hb9
       refine hK.out _ _ ⟨(blk_cell B9.out 0).trans rfl, (blk_cell B9.out 1).trans rfl, (blk_cell B9.out 2).trans rfl, (blk_cell B9.out 3).trans rfl, (blk_cell B9.out 4).trans rfl, (blk_cell B9.out 5).trans rfl, (blk_cell BK9.out 0).trans rfl⟩ (fun hHeld => ?_)
       clear hK K
       refine norm_ (a' := ?_) ?_ ?_
       rotate_left; (show Act.put _ (some 15) _ = _; simp only [Act.put, List.setIfInBounds_toArray, List.set_cons_zero, List.set_cons_succ, i64_w, i32_w]; rfl)
       iterate 32 (first
        | (refine pureJ_ (v := undef) (a' := ?_) rfl rfl (any_of HT_.out (by kernel_rfl)) (fun _ _ _ h => h) (by (try simp only [Nat.reduceAdd]); first | done | rfl) (Or.inr ⟨by rfl, rfl⟩) ?_ ?_; rotate_left; (simp only [Act.put, List.setIfInBounds_toArray, List.set_cons_zero, List.set_cons_succ, i64_w, i32_w]; rfl))
        | (refine pureJ_ (v := ?_) (a' := ?_) rfl rfl (any_of HT_.out (by kernel_rfl)) (fun _ _ _ h => h) (by (try simp only [Nat.reduceAdd]); first | done | rfl) (Or.inl ⟨by rfl, ?_⟩) ?_ ?_; rotate_left; (intro w'; go_simp; with_reducible rfl); rotate_left; (simp only [Act.put, List.setIfInBounds_toArray, List.set_cons_zero, List.set_cons_succ, i64_w, i32_w]; rfl))
        | (refine takeJ_ (v := ?_) (a' := ?_) rfl rfl (take_ofW HT_.out HW_.out (by kernel_rfl)) (fun _ _ _ h => h) (by (try simp only [Nat.reduceAdd]); first | done | rfl) (Or.inl ⟨by rfl, ?_⟩) hHeld ?_ ?_; rotate_left; (rintro w' ⟨s0_, s1_, s2_, s3_, s4_, s5_, s6_⟩; go_simp; with_reducible rfl); rotate_left; (simp only [Act.put, List.setIfInBounds_toArray, List.set_cons_zero, List.set_cons_succ, i64_w, i32_w]; rfl)))
       refine done_ (done_of HT_.out (by kernel_rfl)) ?_
       try go_wp2
       go_meet
       case rel => exact ⟨_, rfl, ⟨by simp [rowOk, prevI, HT1.out, HSV.out]⟩, BK9, HB9⟩
      | succ j =>
       have hj0 : (0 : Int) ≤ (j : Int) := by omega
       have hj1 : (j : Int) < (l0_0.length : Int) := by omega
       have hjw : wrap64 (j : Int) = (j : Int) := by unfold wrap64; omega
       have hk0 : decide ((0 : Int) < ((j + 1 : Nat) : Int)) = true := decide_eq_true (by omega)
       obtain ⟨ad_, e0, hy0, hy1, hy2, hy3, hy4, hy5⟩ := at_T60 HR0.out j hj0 hj1
       obtain rfl : ad = ad_ := (by injection e0)
       simp only [Int.toNat_natCast] at hy0
       clear hy1 hy2 hy3 hy4 hy5
       have c0 := (HB.out.cell (World.block_lt_of_cell? w _ hy0)).trans hy0
       obtain ⟨y, hy⟩ : ∃ y, rd_T60 l0_0 (j : Int) = y := ⟨_, rfl⟩
       rw [hy] at hy0 c0
       have HY := Aside0.mk hy
       clear hy
       have hjt : (j : Int).toNat = j := Int.toNat_natCast j
       refine start_ (n := 35) (S := fun w' => w'.cell? ⟨g4, 0, none⟩ = some (.int .i64 x.f0.f0) ∧ w'.cell? ⟨g4, 1, none⟩ = some (.int .i64 x.f0.f1) ∧ w'.cell? ⟨g4, 2, none⟩ = some (.int .i64 x.f0.f2) ∧ w'.cell? ⟨g4, 3, none⟩ = some (.int .i64 x.f0.f3) ∧ w'.cell? ⟨g4, 4, none⟩ = some (.int .i64 x.f0.f4) ∧ w'.cell? ⟨g4, 5, none⟩ = some (.bool false) ∧ w'.cell? ⟨gt, 0, none⟩ = some (.slice (some ad) l0_0.length c0_0) ∧ w'.cell? (ad.add (j * 6)) = some (.int .i64 y.f0.f0)) (ds := []) (pre_ 35 0) (by kernel_rfl) rfl rfl ⟨s0, s1, s2, s3, s4, s5, t0, c0⟩ (fun hHeld => ?_); refine with_tabW table_Check.tab4 table_Check.bits4 (fun HT_ HW_ => ?_)
       iterate 2 (first
        | (refine pureJ_ (v := undef) (a' := ?_) rfl rfl (any_of HT_.out (by kernel_rfl)) (fun _ _ _ h => h) (by (try simp only [Nat.reduceAdd]); first | done | rfl) (Or.inr ⟨by rfl, rfl⟩) ?_ ?_; rotate_left; (simp only [Act.put, List.setIfInBounds_toArray, List.set_cons_zero, List.set_cons_succ, i64_w, i32_w]; rfl))
        | (refine pureJ_ (v := ?_) (a' := ?_) rfl rfl (any_of HT_.out (by kernel_rfl)) (fun _ _ _ h => h) (by (try simp only [Nat.reduceAdd]); first | done | rfl) (Or.inl ⟨by rfl, ?_⟩) ?_ ?_; rotate_left; (intro w'; go_simp; with_reducible rfl); rotate_left; (simp only [Act.put, List.setIfInBounds_toArray, List.set_cons_zero, List.set_cons_succ, i64_w, i32_w]; rfl))
        | (refine takeJ_ (v := ?_) (a' := ?_) rfl rfl (take_ofW HT_.out HW_.out (by kernel_rfl)) (fun _ _ _ h => h) (by (try simp only [Nat.reduceAdd]); first | done | rfl) (Or.inl ⟨by rfl, ?_⟩) hHeld ?_ ?_; rotate_left; (rintro w' ⟨s0_, s1_, s2_, s3_, s4_, s5_, s6_, s7_⟩; go_simp; with_reducible rfl); rotate_left; (simp only [Act.put, List.setIfInBounds_toArray, List.set_cons_zero, List.set_cons_succ, i64_w, i32_w]; rfl)))
       refine one_ (i := 2) (N := some 15) (pre_ 35 3) rfl rfl (one_of HT_.out (by kernel_rfl)) (by decide) (fun K hK => ?_)
       refine goes_ Try.func50 (by kernel_rfl) rfl #[.agg #[.int .i64 x.f0.f0, .int .i64 x.f0.f1, .int .i64 x.f0.f2, .int .i64 x.f0.f3, .int .i64 x.f0.f4]] (by rfl) rfl rfl (by (try simp only [List.map_toArray, List.map_cons, List.map_nil]); first | done | rfl) ?_
       with_reducible refine (param_Check.calls x.f0.f0 x.f0.f1 x.f0.f2 x.f0.f3 x.f0.f4 _ _ HCK.out).mono ?_
       rintro e w9 ⟨rfl, hb9⟩
       refine ⟨_, rfl, ?_⟩
       have HB9 := Aside0.mk (below_step (below_drew1 HB.out) hb9)
       have BK9 := Aside0.mk (blk_below (blk_drew BK.out) hb9)
       have B9 := Aside0.mk (blk_below (blk_drew B4.out) hb9)
       clear hb9
       refine hK.out _ _ ⟨(blk_cell B9.out 0).trans rfl, (blk_cell B9.out 1).trans rfl, (blk_cell B9.out 2).trans rfl, (blk_cell B9.out 3).trans rfl, (blk_cell B9.out 4).trans rfl, (blk_cell B9.out 5).trans rfl, (blk_cell BK9.out 0).trans rfl, (HB9.out.cell (World.block_lt_of_cell? w _ hy0)).trans hy0⟩ (fun hHeld => ?_)
       clear hK K
       refine norm_ (a' := ?_) ?_ ?_
       rotate_left; (show Act.put _ (some 15) _ = _; simp only [Act.put, List.setIfInBounds_toArray, List.set_cons_zero, List.set_cons_succ, i64_w, i32_w]; rfl)
       iterate 32 (first
        | (refine pureJ_ (v := undef) (a' := ?_) rfl rfl (any_of HT_.out (by kernel_rfl)) (fun _ _ _ h => h) (by (try simp only [Nat.reduceAdd]); first | done | rfl) (Or.inr ⟨by rfl, rfl⟩) ?_ ?_; rotate_left; (simp only [Act.put, List.setIfInBounds_toArray, List.set_cons_zero, List.set_cons_succ, i64_w, i32_w]; rfl))
        | (refine pureJ_ (v := ?_) (a' := ?_) rfl rfl (any_of HT_.out (by kernel_rfl)) (fun _ _ _ h => h) (by (try simp only [Nat.reduceAdd]); first | done | rfl) (Or.inl ⟨by rfl, ?_⟩) ?_ ?_; rotate_left; (intro w'; go_simp; with_reducible rfl); rotate_left; (simp only [Act.put, List.setIfInBounds_toArray, List.set_cons_zero, List.set_cons_succ, i64_w, i32_w]; rfl))
        | (refine takeJ_ (v := ?_) (a' := ?_) rfl rfl (take_ofW HT_.out HW_.out (by kernel_rfl)) (fun _ _ _ h => h) (by (try simp only [Nat.reduceAdd]); first | done | rfl) (Or.inl ⟨by rfl, ?_⟩) hHeld ?_ ?_; rotate_left; (rintro w' ⟨s0_, s1_, s2_, s3_, s4_, s5_, s6_, s7_⟩; go_simp; with_reducible rfl); rotate_left; (simp only [Act.put, List.setIfInBounds_toArray, List.set_cons_zero, List.set_cons_succ, i64_w, i32_w]; rfl)))
       refine done_ (done_of HT_.out (by kernel_rfl)) ?_
       try go_wp2
       go_meet
       case rel => exact ⟨_, rfl, ⟨lastF HT1.out HSV.out HY.out⟩, BK9, HB9⟩
   case rest =>
    clear HCK t0 s0 s1 s2 s3 s4 s5 BK HB B4
    obtain ⟨b, rfl, HOK, BK, HB⟩ := hcut
    cases b with
    | true =>
     go_wp2
     go_ret
     exact ⟨by unfold tabB; rw [HG.out, HS.out, HOK.out]; rfl, HB.out⟩
    | false =>
     go_wp2
     go_roundw
     case rel => exact ⟨k + 1, by omega, by go_num, ⟨by rw [HG.out, HS.out, HOK.out]; rfl⟩, BK, HB⟩
     case measure => simp [intOf]; omega
  ·have hkl : k = l0_0.length := by omega
   have HGG : Aside0 (tabGo none l0_0 = true) := ⟨by rw [HG.out, hkl]; exact tabGo_end l0_0⟩
   clear hkl HG
   by_cases h16 : (l0_0.length : Int) ≤ 16
   ·by_cases h0 : a0_1 ≥ 0
    ·go_wp2
     go_ret
     exact ⟨by unfold tabB; rw [HGG.out, decide_eq_true (show l0_0.length ≤ 16 by omega), decide_eq_true (show 0 ≤ a0_1 from h0)]; rfl, HB.out⟩
    ·go_wp2
     go_ret
     exact ⟨by unfold tabB; rw [decide_eq_false (show ¬ 0 ≤ a0_1 by omega)]; simp, HB.out⟩
   ·go_wp2
    go_ret
    exact ⟨by unfold tabB; rw [decide_eq_false (show ¬ l0_0.length ≤ 16 by omega)]; simp, HB.out⟩

end Go.Proofs.Ythkagoomlmgcdaa.PJudgeFits
