-- Made by px.py (a program of this session, over the kit's printer) out of the translation. Not trusted: Lean checks it.
import Derived.Test.YthkagoomlmgcdaaPJudgeFitsx0
import Derived.Test.YthkagoomlmgcdaaPJudgeFitsx3
import Derived.Test.YthkagoomlmgcdaaPJudgeFitsx4
namespace Go.Proofs.Ythkagoomlmgcdaa.PJudgeFits
open Go.RowKit Go.Proofs.YthkagoomlmgcdaaW.PrintWords Go.Proofs.YthkagoomlmgcdaaW.PrintLast Go.Proofs.YthkagoomlmgcdaaW.PrintMore
attribute [local go_sem] max2_int min2_int max_two min_two max_three min_three max_four min_four   -- for this text's walks alone
set_option linter.unusedVariables false
set_option linter.unusedSimpArgs false

/-! ### table_at: function 59 (by hand) -/
/-- The first place, by halves, whose number is not below one. -/
def bsGo (l : List S60) (id : Int) : Nat → Nat → Nat → Nat
  | 0, i, _ => i
  | k + 1, i, j => if i < j then (if (rd_T60 l (((i + j) / 2 : Nat) : Int)).f0.f0 < id then bsGo l id k ((i + j) / 2 + 1) j else bsGo l id k i ((i + j) / 2)) else i
def bsAt (l : List S60) (id : Int) : Nat := bsGo l id (l.length + 1) 0 l.length
def cmpV (x y : Int) : Int := if x < y then -1 else if x > y then 1 else 0
theorem bsGo_le (l : List S60) (id : Int) : ∀ (k i j : Nat), i ≤ j → i ≤ bsGo l id k i j ∧ bsGo l id k i j ≤ j
  | 0, i, j, h => ⟨Nat.le_refl _, h⟩
  | k + 1, i, j, h => by
    unfold bsGo
    by_cases c : i < j
    · rw [if_pos c]
      by_cases d : (rd_T60 l (((i + j) / 2 : Nat) : Int)).f0.f0 < id
      · rw [if_pos d]
        have := bsGo_le l id k ((i + j) / 2 + 1) j (by omega)
        omega
      · rw [if_neg d]
        have := bsGo_le l id k i ((i + j) / 2) (by omega)
        omega
    · rw [if_neg c]; exact ⟨Nat.le_refl _, h⟩
theorem bsAt_le (l : List S60) (id : Int) : bsAt l id ≤ l.length := (bsGo_le l id _ 0 _ (Nat.zero_le _)).2
theorem at1_is (x : S60) (id : Int) : table_at_1.f x.f0.f0 x.f0.f1 x.f0.f2 x.f0.f3 x.f0.f4 x.f1 id = some (cmpV x.f0.f0 id) := by
  unfold table_at_1.f cmp_Compare_int.f cmp_isNaN_int.f cmpV
  simp only [Option.bind_some, bne_self_eq_false, Bool.false_eq_true, if_false]
  split
  · rfl
  · split <;> rfl
theorem cmpV_lt (x y : Int) : decide (cmpV x y < 0) = decide (x < y) := by
  unfold cmpV
  by_cases h : x < y
  · rw [if_pos h, decide_eq_true h]; rfl
  · rw [if_neg h, decide_eq_false h]; split <;> rfl
theorem cmpV_eq (x y : Int) : (cmpV x y == 0) = decide (x = y) := by
  unfold cmpV
  by_cases h : x < y
  · rw [if_pos h, decide_eq_false (by omega)]; rfl
  · rw [if_neg h]
    by_cases g : x > y
    · rw [if_pos g, decide_eq_false (by omega)]; rfl
    · rw [if_neg g, decide_eq_true (by omega)]; rfl
def bsFunc.f (l0 : List S60) (a1 : Int) : Option (Int × Bool) := some ((bsAt l0 a1 : Int), decide (bsAt l0 a1 < l0.length ∧ (rd_T60 l0 (bsAt l0 a1 : Int)).f0.f0 = a1))
set_option maxHeartbeats 8000000 in
set_option maxRecDepth 100000 in
theorem bsFunc.calls (A0 : Option Addr) (c0 : Nat) (l0 : List S60) (a1 : Int) (w : World) (hr0 : Kd.C k60 w A0 l0.length l0) (hm : l0.length ≤ 1000000) :
    Calls Try.prog 87 #[.slice A0 l0.length c0, .int .i64 a1, .func (.func 88) #[] #[]] w fun e w' => e = .returned (.tuple #[.int .i64 (bsAt l0 a1 : Int), .bool (decide (bsAt l0 a1 < l0.length ∧ (rd_T60 l0 (bsAt l0 a1 : Int)).f0.f0 = a1))]) ∧ Below w.heap.size w w' := by
  have hu60 := Try.underlying60
  have HR0 := Aside0.mk hr0
  clear hr0
  have HLE := Aside0.mk (bsAt_le l0 a1)
  obtain ⟨p, hp⟩ : ∃ p, bsAt l0 a1 = p := ⟨_, rfl⟩
  rw [hp] at HLE ⊢
  have HP := Aside0.mk (show bsGo l0 a1 (l0.length + 1) 0 l0.length = p from hp)
  clear hp
  go_enter Try.func87, Try.ntmps87
  go_wp2
  go_loopg [9, 10, 11] (l0.length + 1) (fun gg v9 v10 _ wr => ∃ i j : Nat, v9 = .int .i64 i ∧ v10 = .int .i64 j ∧ i ≤ j ∧ j ≤ l0.length ∧ j - i < gg ∧ Aside0 (bsGo l0 a1 gg i j = p) ∧ Aside0 (Below w.heap.size w wr))
  case atStart => exact ⟨0, l0.length, rfl, rfl, Nat.zero_le _, Nat.le_refl _, by omega, HP, ⟨Below.refl _ _⟩⟩
  case round =>
    obtain ⟨i, j, rfl, rfl, hij, hjl, hg, HG, HB⟩ := hrel
    cases gk with
    | zero => omega
    | succ g =>
    by_cases hlt : i < j
    · obtain ⟨h, hh⟩ : ∃ h : Nat, (i + j) / 2 = h := ⟨_, rfl⟩
      have hw3 : ((i : Int) + (j : Int)) / 2 = (h : Int) := by omega
      have hhl : h < l0.length := by omega
      have hih : i ≤ h ∧ h < j := by omega
      have p0 : (0 : Int) ≤ (h : Int) := by omega
      have q0 : (h : Int) < (l0.length : Int) := by omega
      obtain ⟨ad, e0, hx0, hx1, hx2, hx3, hx4, hx5⟩ := at_T60 HR0.out h p0 q0
      cases e0
      replace hx0 := (HB.out.cell (World.block_lt_of_cell? w _ hx0)).trans hx0
      replace hx1 := (HB.out.cell (World.block_lt_of_cell? w _ hx1)).trans hx1
      replace hx2 := (HB.out.cell (World.block_lt_of_cell? w _ hx2)).trans hx2
      replace hx3 := (HB.out.cell (World.block_lt_of_cell? w _ hx3)).trans hx3
      replace hx4 := (HB.out.cell (World.block_lt_of_cell? w _ hx4)).trans hx4
      replace hx5 := (HB.out.cell (World.block_lt_of_cell? w _ hx5)).trans hx5
      simp only [Int.toNat_natCast] at hx0 hx1 hx2 hx3 hx4 hx5
      have hgo := HG.out
      unfold bsGo at hgo
      rw [if_pos hlt, hh] at hgo
      obtain ⟨x, hx⟩ : ∃ x, rd_T60 l0 (h : Int) = x := ⟨_, rfl⟩
      rw [hx] at hx0 hx1 hx2 hx3 hx4 hx5 hgo
      clear hx HG hh
      have HIH := Aside0.mk hih
      clear hih
      by_cases hc : x.f0.f0 < a1
      · have hcv : cmpV x.f0.f0 a1 < 0 := by unfold cmpV; rw [if_pos hc]; decide
        rw [if_pos hc] at hgo
        have HG := Aside0.mk hgo
        clear hgo hc
        go_wp2_with (go_at_call 88; refine (table_at_1.calls x.f0.f0 x.f0.f1 x.f0.f2 x.f0.f3 x.f0.f4 x.f1 a1 (cmpV x.f0.f0 a1) wr (at1_is x a1)).mono ?_; rintro e w1 ⟨rfl, hb1⟩; have HB1 := Aside0.mk (below_step HB.out hb1); clear hb1)
        go_roundg g
        case measure => omega
        case rel => exact ⟨h + 1, j, by go_num, rfl, by have := HIH.out; omega, hjl, by have := HIH.out; omega, HG, HB1⟩
      · have hcv : ¬ cmpV x.f0.f0 a1 < 0 := by unfold cmpV; rw [if_neg hc]; split <;> decide
        have hcv2 : 0 ≤ cmpV x.f0.f0 a1 := by omega
        rw [if_neg hc] at hgo
        have HG := Aside0.mk hgo
        clear hgo hc
        go_wp2_with (go_at_call 88; refine (table_at_1.calls x.f0.f0 x.f0.f1 x.f0.f2 x.f0.f3 x.f0.f4 x.f1 a1 (cmpV x.f0.f0 a1) wr (at1_is x a1)).mono ?_; rintro e w1 ⟨rfl, hb1⟩; have HB1 := Aside0.mk (below_step HB.out hb1); clear hb1)
        go_roundg g
        case measure => omega
        case rel => exact ⟨i, h, rfl, by go_num, by have := HIH.out; omega, by have := HIH.out; omega, by have := HIH.out; omega, HG, HB1⟩
    · have hp2 : i = p := by
        have hgo := HG.out
        unfold bsGo at hgo
        rwa [if_neg hlt] at hgo
      subst hp2
      clear HG hg
      by_cases hil : i < l0.length
      · have p0 : (0 : Int) ≤ (i : Int) := by omega
        have q0 : (i : Int) < (l0.length : Int) := by omega
        obtain ⟨ad, e0, hx0, hx1, hx2, hx3, hx4, hx5⟩ := at_T60 HR0.out i p0 q0
        cases e0
        replace hx0 := (HB.out.cell (World.block_lt_of_cell? w _ hx0)).trans hx0
        replace hx1 := (HB.out.cell (World.block_lt_of_cell? w _ hx1)).trans hx1
        replace hx2 := (HB.out.cell (World.block_lt_of_cell? w _ hx2)).trans hx2
        replace hx3 := (HB.out.cell (World.block_lt_of_cell? w _ hx3)).trans hx3
        replace hx4 := (HB.out.cell (World.block_lt_of_cell? w _ hx4)).trans hx4
        replace hx5 := (HB.out.cell (World.block_lt_of_cell? w _ hx5)).trans hx5
        simp only [Int.toNat_natCast] at hx0 hx1 hx2 hx3 hx4 hx5
        obtain ⟨x, hx⟩ : ∃ x, rd_T60 l0 (i : Int) = x := ⟨_, rfl⟩
        rw [hx] at hx0 hx1 hx2 hx3 hx4 hx5
        have HX := Aside0.mk hx
        clear hx
        have HIL := Aside0.mk hil
        go_wp2_with (go_at_call 88; refine (table_at_1.calls x.f0.f0 x.f0.f1 x.f0.f2 x.f0.f3 x.f0.f4 x.f1 a1 (cmpV x.f0.f0 a1) wr (at1_is x a1)).mono ?_; rintro e w1 ⟨rfl, hb1⟩; have HB1 := Aside0.mk (below_step HB.out hb1); clear hb1)
        go_ret2
        exact ⟨by rw [cmpV_eq, HX.out]; simp [HIL.out], HB1.out⟩
      · have HIL := Aside0.mk hil
        go_wp2
        go_ret2
        exact ⟨by simp [HIL.out], HB.out⟩
-- table_at_1 cmp_Compare_int cmp_isNaN_int
def atB (l : List S60) (id : Int) : Bool := decide (bsAt l id < l.length ∧ (rd_T60 l (bsAt l id : Int)).f0.f0 = id)
def table_at.f (l0_0 : List S60) (a0_1 : Int) (a1 : Int) : Option (Int × Bool) := if l0_0.length ≤ 1000000 then some ((bsAt l0_0 a1 : Int), atB l0_0 a1) else none
set_option maxHeartbeats 8000000 in
set_option maxRecDepth 100000 in
theorem table_at.calls (A0_0 : Option Addr) (c0_0 : Nat) (l0_0 : List S60) (a0_1 : Int) (a1 : Int) (r1 : Int) (r2 : Bool) (w : World) (hr0_0 : Kd.C k60 w A0_0 l0_0.length l0_0) (hc0_0 : l0_0.length ≤ c0_0) (h : table_at.f l0_0 a0_1 a1 = some (r1, r2)) :
    Calls Try.prog 59 #[.agg #[.slice A0_0 l0_0.length c0_0, .int .i64 a0_1], .int .i64 a1] w fun e w' => e = .returned (.tuple #[.int .i64 r1, .bool r2]) ∧ Below w.heap.size w w' := by
  have hu52 := Try.underlying46
  unfold table_at.f at h
  by_cases hm : l0_0.length ≤ 1000000
  case neg => rw [if_neg hm] at h; cases h
  rw [if_pos hm] at h
  injection h with h
  injection h with h1 h2
  have H1 := Aside0.mk h1
  have H2 := Aside0.mk h2
  clear h1 h2
  have HR0 := Aside0.mk hr0_0
  have HM := Aside0.mk hm
  clear hr0_0 hc0_0 hm
  have HB := Aside0.mk (Below.refl w.heap.size w)
  go_enter Try.func59, Try.ntmps59
  go_wp2_with (first
    | ((with_reducible refine gate_dst (N := 2) rfl ?_); refine box_event ?hg (N := 2) ?hd (cs := #[.slice A0_0 l0_0.length c0_0, .int .i64 a0_1]) (t := 46) ?hr ?_; (case hd => rfl); (case hg => rfl); (case hr => first | (go_simp; done) | (go_simp; rfl)); intro gt hg w2 hbox hb; have n0_ := Aside0.mk (below_step HB.out hb); clear HB; have HB := n0_; clear n0_; have hcz0 : w2.cell? ⟨gt, 0, none⟩ = some (.slice A0_0 l0_0.length c0_0) := (blk_cell hbox 0).trans rfl; clear hb hbox hg)
    | (go_at_call 87; refine (bsFunc.calls A0_0 c0_0 l0_0 a1 _ (Kd.C_below HR0.out HB.out) HM.out).mono ?_; rintro e w3 ⟨rfl, hb1⟩; have HB1 := Aside0.mk (below_step HB.out hb1); clear hb1))
  go_ret2
  exact ⟨by rw [← H1.out, ← H2.out]; unfold atB; rw [Bool.decide_and]; rfl, HB1.out⟩

/-! ### table_with: function 62 (by hand) -/
set_option maxHeartbeats 4000000 in
set_option maxRecDepth 100000 in
theorem crGrow.calls (n : Nat) (w : World) (hn : n ≤ 1000000) : Calls Try.prog 114 #[.slice none 0 0, .int .i64 (n : Int)] w fun e w' => ∃ v : Value, e = .returned v ∧ Kd.R k60 60 w' w.heap.size (fun _ => True) v [] ∧ Below w.heap.size w w' := by
  rcases Nat.eq_zero_or_pos n with h0 | h0
  · subst h0
    go_enter Try.func114, Try.ntmps114
    go_wp2
    go_ret
    exact ⟨_, rfl, Kd.R_nil _ _ _ _ _, Below.refl _ _⟩
  · obtain ⟨i0, hi0, hz0, hz1, hz2⟩ := info_parts info60
    have hrz : ∀ ty, ∃ G, n ≤ G ∧ G ≤ maxLen ∧ (Builtin.append_ #[44, 3] ty #[.slice none 0 0, .int .i64 (n : Int)]).run Try.prog w = .ok (.slice (some ⟨w.heap.size, 0, none⟩) n G) (w.drew.alloc (.cells (Builtin.zeroCells (zRow : Value).cells n ++ Builtin.zeroCells (zRow : Value).cells (G - n)) 60)) := fun ty =>
      PxG.grow_run w 44 3 ty 60 i0 _ .i64 Try.underlying44 Try.underlying3 hi0 hz0 n h0 (by rw [hz1]; decide) (by rw [hz2]; omega) (by omega)
    obtain ⟨G, hG1, hG2, hrun⟩ := hrz 44
    have hsz : (Builtin.zeroCells (zRow : Value).cells n ++ Builtin.zeroCells (zRow : Value).cells (G - n)).size = G * 6 := by
      simp [Builtin.zeroCells, Value.cells]
      omega
    obtain ⟨cs, hcs⟩ : ∃ cs, Builtin.zeroCells (zRow : Value).cells n ++ Builtin.zeroCells (zRow : Value).cells (G - n) = cs := ⟨_, rfl⟩
    rw [hcs] at hrun hsz
    clear hcs hrz hi0 hz0 hz1 hz2
    have HSZ := Aside0.mk hsz
    clear hsz
    have HG2 := Aside0.mk hG2
    clear hG2
    have hG63 : G ≤ 9223372036854775807 := by have := HG2.out; unfold maxLen at this; omega
    have hp : (0 : Int) < (n : Int) := by omega
    go_enter Try.func114, Try.ntmps114
    go_wp2_with (at_builtin; refine Lib.wpList_append_run _ rfl _ _ _ _ rfl _ _ rfl rfl _ _ hrun ?_)
    all_goals (go_ret; exact ⟨_, rfl, R_empty k60 (Nat.le_refl _) trivial (heap_alloc_new w.drew _) HG2.out HSZ.out, below_alloc (below_drew1 (Below.refl _ _)) _⟩)
/-- Slices of a row of slices: what each of them holds. -/
def crSrcs (w : World) (vs : List Value) (ls : List (List S60)) : Prop := vs.length = ls.length ∧ ∀ (i : Nat) l, ls[i]? = some l → ∃ A c, vs[i]? = some (.slice A l.length c) ∧ l.length ≤ c ∧ Kd.C k60 w A l.length l
theorem cr_step (ls : List (List S60)) (i : Nat) (l : List S60) (h : ls[i]? = some l) : (ls.take (i + 1)).flatten = (ls.take i).flatten ++ l := by
  obtain ⟨hi, rfl⟩ := List.getElem?_eq_some_iff.1 h
  rw [List.take_succ_eq_append_getElem hi, List.flatten_append]
  simp
theorem cr_len (ls : List (List S60)) (i : Nat) : (ls.take i).flatten.length ≤ ls.flatten.length := by
  have : ls.flatten.length = (ls.take i).flatten.length + (ls.drop i).flatten.length := by
    rw [← List.length_append, ← List.flatten_append, List.take_append_drop]
  omega
set_option maxHeartbeats 8000000 in
set_option maxRecDepth 100000 in
theorem crConcat.calls (g cap : Nat) (vs : List Value) (ls : List (List S60)) (w : World) (hg : w.heap[g]? = some (.cells vs.toArray 44 (0, 0))) (hv : crSrcs w vs ls) (ht : ls.flatten.length ≤ 1000000) (hm : ls.length ≤ 1000) :
    Calls Try.prog 90 #[.slice (some ⟨g, 0, none⟩) ls.length cap] w fun e w' => ∃ v : Value, e = .returned v ∧ Kd.R k60 60 w' w.heap.size (fun _ => True) v ls.flatten ∧ Below w.heap.size w w' := by
  have hu44 := Try.underlying44
  have HG := Aside0.mk hg
  have HV := Aside0.mk hv
  have HT := Aside0.mk ht
  clear hg hv ht
  go_enter Try.func90, Try.ntmps90
  go_wp2
  go_loopw [3, 5, 11] (fun v3 _ v11 wr => ∃ i : Nat, i ≤ ls.length ∧ v11 = .int .i64 i ∧ v3 = .int .i64 ((ls.take i).flatten.length : Nat) ∧ Aside0 (Below w.heap.size w wr)) (fun _ _ v11 _ => ls.length - (intOf v11).toNat)
  case atStart => exact ⟨0, Nat.zero_le _, rfl, by simp, ⟨Below.refl _ _⟩⟩
  case round =>
    obtain ⟨i, hi, rfl, rfl, HB⟩ := hrel
    by_cases hlt : i < ls.length
    · obtain ⟨l, hl⟩ : ∃ l, ls[i]? = some l := ⟨_, List.getElem?_eq_getElem hlt⟩
      obtain ⟨A, c, h1, h2, h3⟩ := HV.out.2 i l hl
      have hst := cr_step ls i l hl
      have hle := cr_len ls (i + 1)
      rw [hst, List.length_append] at hle
      have htt := HT.out
      have p0 : (0 : Int) ≤ (i : Int) := by omega
      have q0 : (i : Int) < (ls.length : Int) := by omega
      have c0 : wr.cell? ⟨g, i, none⟩ = some (.slice A l.length c) := (HB.out.cell (World.block_lt_of_cell? w _ ((blk_cell HG.out i).trans (by rw [List.getElem?_toArray]; exact h1)))).trans ((blk_cell HG.out i).trans (by rw [List.getElem?_toArray]; exact h1))
      obtain ⟨s, hs⟩ : ∃ s, (ls.take i).flatten.length = s := ⟨_, rfl⟩
      obtain ⟨m, hm1⟩ : ∃ m, l.length = m := ⟨_, rfl⟩
      rw [hs, hm1] at hle
      rw [hs]
      rw [hm1] at c0
      have HST := Aside0.mk (show (ls.take (i + 1)).flatten.length = s + m by rw [hst, List.length_append, hs, hm1])
      have hsm : s + m ≤ 1000000 := by omega
      clear hl h1 h2 h3 hst hle htt hs hm1
      go_wp2
      go_roundw
      case rel => exact ⟨i + 1, by omega, by go_num, by rw [HST.out]; go_num, HB⟩
      case measure => simp [intOf]; omega
    · obtain rfl : i = ls.length := by omega
      obtain ⟨tot, htot⟩ : ∃ t, (ls.take ls.length).flatten.length = t := ⟨_, rfl⟩
      rw [htot]
      have hle : tot ≤ 1000000 := by have := cr_len ls ls.length; have := HT.out; omega
      clear htot hlt hi
      go_wp2_with (go_at_call 114; refine (crGrow.calls tot wr hle).mono ?_; rintro e w1 ⟨v6, rfl, hr, hb⟩; have HR := Aside0.mk (Kd.R_lower hr (below_size HB.out)); have HB1 := Aside0.mk (below_step HB.out hb); clear hr hb HB)
      go_loopw [6, 8, 27] (fun v6 _ v27 wr => ∃ i : Nat, i ≤ ls.length ∧ v27 = .int .i64 i ∧ Aside0 (Kd.R k60 60 wr w.heap.size (fun _ => True) v6 (ls.take i).flatten) ∧ Aside0 (Below w.heap.size w wr)) (fun _ _ v27 _ => ls.length - (intOf v27).toNat)
      case atStart => exact ⟨0, Nat.zero_le _, rfl, ⟨by simpa using HR.out⟩, HB1⟩
      case round =>
        clear HR HB1
        obtain ⟨i, hi, rfl, HR, HB⟩ := hrel
        by_cases hlt : i < ls.length
        · obtain ⟨l, hl⟩ : ∃ l, ls[i]? = some l := ⟨_, List.getElem?_eq_getElem hlt⟩
          obtain ⟨A, c, h1, h2, h3⟩ := HV.out.2 i l hl
          have hst := cr_step ls i l hl
          have hle := cr_len ls (i + 1)
          rw [hst, List.length_append] at hle
          have htt := HT.out
          have p0 : (0 : Int) ≤ (i : Int) := by omega
          have q0 : (i : Int) < (ls.length : Int) := by omega
          have c0 : wr.cell? ⟨g, i, none⟩ = some (.slice A l.length c) := (HB.out.cell (World.block_lt_of_cell? w _ ((blk_cell HG.out i).trans (by rw [List.getElem?_toArray]; exact h1)))).trans ((blk_cell HG.out i).trans (by rw [List.getElem?_toArray]; exact h1))
          have HST := Aside0.mk hst
          have HLE := Aside0.mk (show (ls.take i).flatten.length + l.length ≤ 1000000 by omega)
          have H3 := Aside0.mk h3
          clear hl h1 h2 h3 hst hle htt
          obtain ⟨P, hP⟩ : ∃ P, (ls.take i).flatten = P := ⟨_, rfl⟩
          rw [hP] at HR HLE HST
          clear hP
          go_wp2_with ((with_reducible refine gate_builtin (b := .append) (xs := #[.tmp 31, .tmp 32]) rfl ?_); at_builtin; refine Kd.R_append_rows k60 (w0 := w) w.heap.size rfl (.tmp 31) (.tmp 32) 44 60 zRow (6 * 8) rfl Try.underlying44 info60 rfl (by decide) (by omega) _ P l _ _ _ (fun _ => True) (fun _ => False) rfl rfl ?aO ?aR (fun _ _ h => h) (fun _ h => h.elim) ?aF ?aB ?aS ?aL ?_; (case aR => exact Kd.C_below H3.out HB.out); (case aB => exact HB.out); (case aF => exact (fun _ _ => trivial)); (case aO => exact HR.out); (case aS => exact below_size HB.out); (case aL => have := HLE.out; omega); intro v33 w5 ho hb hg hat; have HR5 := Aside0.mk ho; have HB5 := Aside0.mk hb; clear ho hb hg hat)
          go_roundw
          case rel => exact ⟨i + 1, by omega, by go_num, ⟨by rw [HST.out]; exact HR5.out⟩, HB5⟩
          case measure => simp [intOf]; omega
        · obtain rfl : i = ls.length := by omega
          go_wp2
          go_ret
          exact ⟨_, rfl, by have := HR.out; rwa [List.take_length] at this, HB.out⟩
theorem cut_upto {P : Program} (t e : TypeId) {i : TypeInfo} (ht : P.underlying t = some (.slice e)) (hi : P.info? e = some i) (A : Option Addr) (n c : Nat) (j : Nat) (hm : j ≤ n) (hc : n ≤ c) :
    ∀ W : World, (Instr.slice t (.slice A n c) none (some (.int .i64 (j : Int))) (some (.int .i64 (j : Int)))).run P W = .ok (.slice A j j) W := by
  intro W
  have hel : P.elem t = e := by simp [Program.elem, ht]
  have hu : P.underlying t = some (.slice (P.elem t)) := by rw [hel]; exact ht
  have ha : (A.map fun x => x.add 0) = A := by cases A <;> simp [Addr.add]
  rw [run_slice_hm W t A n c hu .i64 .i64 (j : Int) (j : Int) (by omega) (Int.le_refl _) (by omega), hel]
  simp [sizeOf, typeInfo, hi, sliced, Result.andThen, ha]
def table_with.T1 : Bool × List (List Nat × List Nat) := (true, [([], []), ([0], [0]), ([], []), ([], []), ([1, 2, 3], [1, 2, 3]), ([], []), ([], []), ([6], [6]), ([], []), ([7, 8], [7, 8]), ([4, 5, 9], [4, 5, 9]), ([10], [10]), ([], []), ([12], [12]), ([11, 13], [11, 13]), ([14, 11, 0, 1, 2, 3, 4, 5, 6, 7, 8, 9, 10, 11, 12, 13, 14], [14])])
def table_with.B1 : List Nat := [0, 1, 0, 0, 15, 0, 0, 64, 0, 448, 1023, 2047, 0, 4096, 16383, 32767]
theorem table_with.tab1 : rtab .any (opsOf Try.f62 1) = table_with.T1 := by kernel_rfl
theorem table_with.bits1 : waitsOk table_with.T1.2 table_with.B1 = true := by kernel_rfl
set_option maxHeartbeats 8000000 in
set_option maxRecDepth 100000 in
theorem table_with.calls (A0_0 : Option Addr) (c0_0 : Nat) (l0_0 : List S60) (a0_1 : Int) (i j : Nat) (A3 : Option Addr) (c3 : Nat) (l3 : List S60) (w : World) (hr0_0 : Kd.C k60 w A0_0 l0_0.length l0_0) (hc0_0 : l0_0.length ≤ c0_0) (hr3 : Kd.C k60 w A3 l3.length l3) (hc3 : l3.length ≤ c3) (hi : i ≤ l0_0.length) (hj : j ≤ l0_0.length) (hl0 : l0_0.length ≤ 1000) (hl3 : l3.length ≤ 1000) :
    Calls Try.prog 62 #[.agg #[.slice A0_0 l0_0.length c0_0, .int .i64 a0_1], .int .i64 (i : Int), .int .i64 (j : Int), .slice A3 l3.length c3] w fun e w' => ∃ v : Value, e = .returned (.agg #[v, .int .i64 a0_1]) ∧ Kd.R k60 60 w' w.heap.size (fun _ => True) v (l0_0.take i ++ l3 ++ l0_0.drop j) ∧ Below w.heap.size w w' := by
  have hu46 := Try.underlying46
  have hu44 := Try.underlying44
  obtain ⟨y1, hy1⟩ : ∃ y, l0_0.take i = y := ⟨_, rfl⟩
  obtain ⟨y2, hy2⟩ : ∃ y, l0_0.drop j = y := ⟨_, rfl⟩
  have hn1 : y1.length = i := by rw [← hy1, List.length_take]; omega
  have hn2 : y2.length = l0_0.length - j := by rw [← hy2, List.length_drop]
  obtain ⟨i0, hi0, _, hsz, _⟩ := info_parts info60
  have hcut1 := cut_upto (P := Try.prog) 44 60 Try.underlying44 hi0 A0_0 l0_0.length c0_0 i hi hc0_0
  have hcut2 := cut_from (P := Try.prog) 44 60 .i64 Try.underlying44 hi0 6 hsz A0_0 l0_0.length c0_0 (j : Int) (by omega) (by omega)
  rw [Int.toNat_natCast] at hcut2
  have hd := Kd.C_drop (m := j) (c := c0_0) hr0_0 hj hc0_0
  have htk := Kd.C_take (m := i) hr0_0 hi
  rw [hy1] at htk
  rw [hy2] at hd
  obtain ⟨A2, hA2⟩ : ∃ A1, A1 = (if c0_0 = j then A0_0 else A0_0.map (·.add (j * 6))) := ⟨_, rfl⟩
  obtain ⟨c2, hc2⟩ : ∃ c1, c1 = c0_0 - j := ⟨_, rfl⟩
  replace hd : Kd.C k60 w A2 y2.length y2 := by rw [hA2]; exact hd
  rw [← hA2, ← hc2, ← hn2] at hcut2
  replace hcut1 : ∀ W : World, (Instr.slice 44 (.slice A0_0 l0_0.length c0_0) none (some (.int .i64 (i : Int))) (some (.int .i64 (i : Int)))).run Try.prog W = .ok (.slice A0_0 y1.length i) W := by rw [hn1]; exact hcut1
  have hl2 : y2.length ≤ c2 := by rw [hn2, hc2]; omega
  have HTOT : Aside0 (([y1, l3, y2] : List (List S60)).flatten.length ≤ 1000000) := ⟨by simp; omega⟩
  have HSRC : Aside0 (∀ W, Below w.heap.size w W → crSrcs W [.slice A0_0 y1.length i, .slice A3 l3.length c3, .slice A2 y2.length c2] [y1, l3, y2]) := ⟨fun W hW => ⟨rfl, fun q l hq => by
    match q, hq with
    | 0, hq => obtain rfl : y1 = l := by simpa using hq
               exact ⟨_, _, rfl, by omega, Kd.C_below htk hW⟩
    | 1, hq => obtain rfl : l3 = l := by simpa using hq
               exact ⟨_, _, rfl, hc3, Kd.C_below hr3 hW⟩
    | 2, hq => obtain rfl : y2 = l := by simpa using hq
               exact ⟨_, _, rfl, hl2, Kd.C_below hd hW⟩
    | q + 3, hq => simp at hq⟩⟩
  obtain ⟨Y, hY⟩ : ∃ Y, l0_0.take i ++ l3 ++ l0_0.drop j = Y := ⟨_, rfl⟩
  have HRES : Aside0 ([y1, l3, y2].flatten = Y) := ⟨by rw [← hY, hy1, hy2]; simp⟩
  have HY := Aside0.mk hY
  clear hY
  clear hd htk hr0_0 hr3 hn1 hn2 hA2 hc2 hl2 hi0 hsz hy1 hy2 hl0 hl3 hc3 hc0_0
  have hj0 : (0 : Int) ≤ (j : Int) := by omega
  have hj1 : (j : Int) ≤ (l0_0.length : Int) := by omega
  have hi1 : (i : Int) ≤ (l0_0.length : Int) := by omega
  have HB := Aside0.mk (Below.refl w.heap.size w)
  go_enter Try.func62, Try.ntmps62
  go_upto_region 1 with (first
    | ((with_reducible refine gate_dst (N := 4) rfl ?_); refine box_event ?hg (N := 4) ?hd (cs := #[.slice A0_0 l0_0.length c0_0, .int .i64 a0_1]) (t := 46) ?hr ?_; (case hd => rfl); (case hg => rfl); (case hr => first | (go_simp; done) | (go_simp; rfl)); intro gt hg w2 hbox hb; have n0_ := Aside0.mk (below_step HB.out hb); have BKT := Aside0.mk hbox; clear HB; have HB := n0_; clear n0_; clear hb hbox hg)
    | ((with_reducible refine gate_dst (N := 8) rfl ?_); refine box_event ?hg (N := 8) ?hd (cs := #[.slice none 0 0, .int .i64 0]) (t := 46) ?hr ?_; (case hd => rfl); (case hg => rfl); (case hr => first | (go_simp; done) | (go_simp; rfl)); intro g8 hg w3 hbox hb; have n0_ := Aside0.mk (below_step HB.out hb); have n1_ := Aside0.mk (blk_below BKT.out hb); have BK8 := Aside0.mk hbox; have G8 := Aside0.mk (show w.heap.size ≤ g8 by rw [hg]; exact below_size HB.out); clear HB BKT; have HB := n0_; have BKT := n1_; clear n0_ n1_; clear hb hbox hg))
  (try simp only [Act.put, List.setIfInBounds_toArray, List.set_cons_zero, List.set_cons_succ])
  have t0 : w3.cell? ⟨gt, 0, none⟩ = some (.slice A0_0 l0_0.length c0_0) := (blk_cell BKT.out 0).trans rfl
  have t1 : w3.cell? ⟨gt, 1, none⟩ = some (.int .i64 a0_1) := (blk_cell BKT.out 1).trans rfl
  replace HB := Aside0.mk (below_drew1 HB.out)
  replace BKT := Aside0.mk (blk_drew BKT.out)
  replace BK8 := Aside0.mk (blk_drew BK8.out)
  refine start_ (n := 16) (S := fun w' => w'.cell? ⟨gt, 0, none⟩ = some (.slice A0_0 l0_0.length c0_0) ∧ w'.cell? ⟨gt, 1, none⟩ = some (.int .i64 a0_1)) (ds := [15]) (pre_ 16 0) (by kernel_rfl) rfl rfl ⟨t0, t1⟩ (fun hHeld => ?_); refine with_tabW table_with.tab1 table_with.bits1 (fun HT_ HW_ => ?_)
  generalize w3.drew = w5 at HB BKT BK8 hHeld ⊢
  iterate 10 (first
    | (refine pureJ_ (v := undef) (a' := ?_) rfl rfl (any_of HT_.out (by kernel_rfl)) (fun _ _ _ h => h) (by (try simp only [Nat.reduceAdd]); first | done | rfl) (Or.inr ⟨by rfl, rfl⟩) ?_ ?_; rotate_left; (simp only [Act.put, List.setIfInBounds_toArray, List.set_cons_zero, List.set_cons_succ, i64_w, i32_w]; rfl))
    | (refine pureJ_ (v := ?_) (a' := ?_) rfl rfl (any_of HT_.out (by kernel_rfl)) (fun _ _ _ h => h) (by (try simp only [Nat.reduceAdd]); first | done | rfl) (Or.inl ⟨by rfl, ?_⟩) ?_ ?_; rotate_left; (intro w'; go_simp; with_reducible rfl); rotate_left; (simp only [Act.put, List.setIfInBounds_toArray, List.set_cons_zero, List.set_cons_succ, i64_w, i32_w]; rfl))
    | (refine takeJ_ (v := ?_) (a' := ?_) rfl rfl (take_ofW HT_.out HW_.out (by kernel_rfl)) (fun _ _ _ h => h) (by (try simp only [Nat.reduceAdd]); first | done | rfl) (Or.inl ⟨by rfl, ?_⟩) hHeld ?_ ?_; rotate_left; (rintro w' ⟨s0_, s1_⟩; go_simp; with_reducible rfl); rotate_left; (simp only [Act.put, List.setIfInBounds_toArray, List.set_cons_zero, List.set_cons_succ, i64_w, i32_w]; rfl)))
  refine pure_ (i := 12) (N := some 21) (v := ?_) (a' := ?_) (ms_ 16 5119) rfl rfl (any_of HT_.out (by kernel_rfl)) (fun _ _ _ h => h) (Or.inl ⟨by rfl, ?_⟩) ?_ ?_; rotate_left; (intro w'; go_simp; with_reducible rfl); rotate_left; (simp only [Act.put, List.setIfInBounds_toArray, List.set_cons_zero, List.set_cons_succ, i64_w, i32_w]; rfl)
  refine take_ (i := 13) (N := some 22) (v := ?_) (a' := ?_) (ms_ 16 13311) rfl rfl (take_ofW HT_.out HW_.out (by kernel_rfl)) (fun _ _ _ h => h) (Or.inl ⟨by rfl, ?_⟩) hHeld ?_ ?_; rotate_left; (rintro w' ⟨s0_, s1_⟩; go_simp; with_reducible rfl); rotate_left; (simp only [Act.put, List.setIfInBounds_toArray, List.set_cons_zero, List.set_cons_succ, i64_w, i32_w]; rfl)
  refine one_ (i := 10) (N := some 19) (ms_ 16 14335) rfl rfl (one_of HT_.out (by kernel_rfl)) (by decide) (fun K_ hK => ?_)
  refine value_ (v := ?_) (w1 := ?_) (by rfl) rfl ?_ ?_
  rotate_left
  rotate_left
  · go_simp
    first | (refine ⟨?_, ?_⟩ <;> rfl) | rfl
  have n0_ := Aside0.mk (blk_alloc BKT.out (.cells #[.slice A0_0 y1.length i, .slice A3 l3.length c3, .slice A2 y2.length c2] 44))
  have n1_ := Aside0.mk (blk_alloc BK8.out (.cells #[.slice A0_0 y1.length i, .slice A3 l3.length c3, .slice A2 y2.length c2] 44))
  have n2_ := Aside0.mk (below_alloc HB.out (.cells #[.slice A0_0 y1.length i, .slice A3 l3.length c3, .slice A2 y2.length c2] 44))
  have n3_ := Aside0.mk (heap_alloc_new w5 (.cells #[.slice A0_0 y1.length i, .slice A3 l3.length c3, .slice A2 y2.length c2] 44))
  clear BKT BK8 HB
  have BKT := n0_
  have BK8 := n1_
  have HB := n2_
  have BKS := n3_
  clear n0_ n1_ n2_ n3_
  refine hK.out _ _ ⟨(blk_cell BKT.out 0).trans rfl, (blk_cell BKT.out 1).trans rfl⟩ (fun hHeld => ?_)
  clear hK K_
  refine norm_ (a' := ?_) ?_ ?_
  rotate_left; (show Act.put _ (some 19) _ = _; simp only [Act.put, List.setIfInBounds_toArray, List.set_cons_zero, List.set_cons_succ, i64_w, i32_w]; rfl)
  generalize hg19 : w5.heap.size = g19 at BKS hHeld ⊢
  generalize w5.alloc (.cells #[.slice A0_0 y1.length i, .slice A3 l3.length c3, .slice A2 y2.length c2] 44) = w6 at BKT BK8 HB BKS hHeld ⊢
  clear hg19
  refine one_ (i := 11) (N := some 20) (pre_ 16 14) rfl rfl (one_of HT_.out (by kernel_rfl)) (by decide) (fun K_ hK => ?_)
  refine goes_ Try.func90 (by kernel_rfl) rfl #[.slice (some ⟨g19, 0, none⟩) 3 3] (by rfl) rfl rfl (by (try simp only [List.map_toArray, List.map_cons, List.map_nil]); first | done | rfl) ?_
  refine (crConcat.calls g19 3 [.slice A0_0 y1.length i, .slice A3 l3.length c3, .slice A2 y2.length c2] [y1, l3, y2] w6 BKS.out (HSRC.out w6 HB.out) HTOT.out (by simp)).mono ?_
  rintro e w7 ⟨v20, rfl, hr, hb⟩
  refine ⟨_, rfl, ?_⟩
  rw [HRES.out] at hr
  obtain ⟨A20, c20, rfl⟩ := Kd.R_slice hr
  have HR := Aside0.mk (Kd.R_lower hr (below_size HB.out))
  have n0_ := Aside0.mk (blk_below BKT.out hb)
  have n1_ := Aside0.mk (blk_below BK8.out hb)
  have n2_ := Aside0.mk (below_step HB.out hb)
  clear BKT BK8 HB BKS hr hb
  have BKT := n0_
  have BK8 := n1_
  have HB := n2_
  clear n0_ n1_ n2_
  refine hK.out _ _ ⟨(blk_cell BKT.out 0).trans rfl, (blk_cell BKT.out 1).trans rfl⟩ (fun hHeld => ?_)
  clear hK K_
  refine norm_ (a' := ?_) ?_ ?_
  rotate_left; (show Act.put _ (some 20) _ = _; simp only [Act.put, List.setIfInBounds_toArray, List.set_cons_zero, List.set_cons_succ, i64_w, i32_w]; rfl)
  refine pure_ (i := 14) (N := some 23) (v := ?_) (a' := ?_) (ms_ 16 32767) rfl rfl (any_of HT_.out (by kernel_rfl)) (fun _ _ _ h => h) (Or.inl ⟨by rfl, ?_⟩) ?_ ?_; rotate_left; (intro w'; go_simp; with_reducible rfl); rotate_left; (simp only [Act.put, List.setIfInBounds_toArray, List.set_cons_zero, List.set_cons_succ, i64_w, i32_w]; rfl)
  refine last_ (i := 15) (N := none) (pre_ 16 16) rfl rfl (one_of HT_.out (by kernel_rfl)) (by decide) (fun K_ hK => ?_)
  have HE8 := Aside0.mk (blk_set (blk_set BK8.out 0 (.slice A20 Y.length c20)) 1 (.int .i64 a0_1))
  have e0 : w7.cell? ⟨g8, 0, none⟩ = some (.slice none 0 0) := (blk_cell BK8.out 0).trans rfl
  have e1 : w7.cell? ⟨g8, 1, none⟩ = some (.int .i64 0) := (blk_cell BK8.out 1).trans rfl
  have f0 := blk_frozen BK8.out 0
  have f1 := blk_frozen BK8.out 1
  refine skip_ (w1 := ?_) (by rfl) rfl ?_ ?_
  rotate_left
  · go_simp
    rfl
  refine hK.out _ _ ?_
  clear hK K_
  refine done_ (done_of HT_.out (by kernel_rfl)) ?_
  go_wp2
  refine bodyPost_ret (results_cell_row rfl _ _ g8 46 #[.slice A20 Y.length c20, .int .i64 a0_1] (0, 0) _ rfl HE8.out Try.underlying46 rfl (by kernel_rfl)) rfl ?_
  exact ⟨_, rfl, by rw [HY.out]; exact Kd.R_set (Kd.R_set HR.out BK8.out (by decide) 0 _) (blk_set BK8.out 0 _) (by decide) 1 _, below_set (below_set HB.out G8.out) G8.out⟩

/-! ### table_admits: function 60 (by hand) -/
-- table_at table_with
theorem oneRow_C (W : World) (x : S60) : Kd.C k60 (W.alloc (.cells #[.int .i64 x.f0.f0, .int .i64 x.f0.f1, .int .i64 x.f0.f2, .int .i64 x.f0.f3, .int .i64 x.f0.f4, .bool x.f1] 60)) (some ⟨W.heap.size, 0, none⟩) [x].length [x] := by
  refine ⟨rfl, by simp, fun _ => ⟨⟨W.heap.size, 0, none⟩, rfl, fun j p hj => ?_⟩⟩
  obtain ⟨hj1, rfl⟩ := List.getElem?_eq_some_iff.1 hj
  have e : ∀ q, (⟨W.heap.size, 0, none⟩ : Addr).add q = ⟨W.heap.size, q, none⟩ := fun q => by unfold Addr.add; split <;> simp_all
  have hb := heap_alloc_new W (.cells #[.int .i64 x.f0.f0, .int .i64 x.f0.f1, .int .i64 x.f0.f2, .int .i64 x.f0.f3, .int .i64 x.f0.f4, .bool x.f1] 60)
  match j, hj1 with
  | 0, _ =>
    refine ⟨[.int .i64 x.f0.f0, .int .i64 x.f0.f1, .int .i64 x.f0.f2, .int .i64 x.f0.f3, .int .i64 x.f0.f4, .bool x.f1], rfl, k60_mk _ _, fun i u hu => ?_⟩
    rw [e, blk_cell hb]
    match i, hu with
    | 0, hu => exact hu
    | 1, hu => exact hu
    | 2, hu => exact hu
    | 3, hu => exact hu
    | 4, hu => exact hu
    | 5, hu => exact hu
    | (i + 6), hu => simp at hu
  | (j + 1), h => exact absurd h (by simp)
/-- A table with a row more, where its number has its place. -/
def insR (l : List S60) (x : S60) : List S60 := l.take (bsAt l x.f0.f0) ++ [x] ++ l.drop (bsAt l x.f0.f0)
def table_admits.f (l0_0 : List S60) (a0_1 : Int) (a1_0 a1_1 a1_2 a1_3 a1_4 a1_5 : Int) (a1_6 : Bool) (a1_7 a1_8 a1_9 : Int) : Option (List S60 × Int × Int) :=
  if l0_0.length ≤ 1000 then (if atB l0_0 a1_1 = true then some ([], 0, 14) else if l0_0.length ≥ 16 then some ([], 0, 15) else some (insR l0_0 ⟨⟨a1_1, a1_2, a1_3, a1_4, a1_5⟩, a1_6⟩, a0_1, 0)) else none
set_option maxHeartbeats 8000000 in
set_option maxRecDepth 100000 in
theorem table_admits.calls (A0_0 : Option Addr) (c0_0 : Nat) (l0_0 : List S60) (a0_1 : Int) (a1_0 a1_1 a1_2 a1_3 a1_4 a1_5 : Int) (a1_6 : Bool) (a1_7 a1_8 a1_9 : Int) (r1 : List S60) (r2 r3 : Int) (w : World) (hr0_0 : Kd.C k60 w A0_0 l0_0.length l0_0) (hc0_0 : l0_0.length ≤ c0_0) (h : table_admits.f l0_0 a0_1 a1_0 a1_1 a1_2 a1_3 a1_4 a1_5 a1_6 a1_7 a1_8 a1_9 = some (r1, r2, r3)) :
    Calls Try.prog 60 #[.agg #[.slice A0_0 l0_0.length c0_0, .int .i64 a0_1], .agg #[.int .i64 a1_0, .int .i64 a1_1, .int .i64 a1_2, .int .i64 a1_3, .int .i64 a1_4, .int .i64 a1_5, .bool a1_6, .int .i64 a1_7, .int .i64 a1_8, .int .i64 a1_9]] w fun e w' => ∃ v0_ : Value, e = .returned (.tuple #[.agg #[v0_, .int .i64 r2], .int .i64 r3]) ∧ Kd.R k60 60 w' w.heap.size (fun _ => True) v0_ r1 ∧ Below w.heap.size w w' := by
  have hu46 := Try.underlying46
  unfold table_admits.f at h
  by_cases hm : l0_0.length ≤ 1000
  case neg => rw [if_neg hm] at h; cases h
  rw [if_pos hm] at h
  have HR0 := Aside0.mk hr0_0
  have HC0 := Aside0.mk hc0_0
  have HM := Aside0.mk hm
  have HB := Aside0.mk (Below.refl w.heap.size w)
  have HAT : Aside0 (table_at.f l0_0 a0_1 a1_1 = some ((bsAt l0_0 a1_1 : Int), atB l0_0 a1_1)) := ⟨by unfold table_at.f; rw [if_pos (by omega)]⟩
  have HLE := Aside0.mk (bsAt_le l0_0 a1_1)
  clear hr0_0 hc0_0 hm
  obtain ⟨p, hp⟩ : ∃ p, bsAt l0_0 a1_1 = p := ⟨_, rfl⟩
  rw [hp] at HAT HLE
  have HP := Aside0.mk hp
  clear hp
  cases hat : atB l0_0 a1_1 with
  | true =>
    rw [hat] at HAT h
    rw [if_pos rfl] at h
    obtain ⟨rfl, rfl, rfl⟩ : [] = r1 ∧ (0 : Int) = r2 ∧ (14 : Int) = r3 := by simpa using h
    clear h hat
    go_enter Try.func60, Try.ntmps60
    go_wp2_with (first
      | ((with_reducible refine gate_dst (N := 2) rfl ?_); refine box_event ?hg (N := 2) ?hd (cs := #[.slice A0_0 l0_0.length c0_0, .int .i64 a0_1]) (t := 46) ?hr ?_; (case hd => rfl); (case hg => rfl); (case hr => first | (go_simp; done) | (go_simp; rfl)); intro gt hg w2 hbox hb; have n0_ := Aside0.mk (below_step HB.out hb); have BKT := Aside0.mk hbox; have GTT := Aside0.mk (show w.heap.size ≤ gt by rw [hg]; exact Nat.le_refl _); clear HB; have HB := n0_; clear n0_; clear hb hbox hg)
      | ((with_reducible refine gate_dst (N := 3) rfl ?_); refine box_event ?hg (N := 3) ?hd (cs := #[.int .i64 a1_0, .int .i64 a1_1, .int .i64 a1_2, .int .i64 a1_3, .int .i64 a1_4, .int .i64 a1_5, .bool a1_6, .int .i64 a1_7, .int .i64 a1_8, .int .i64 a1_9]) (t := 50) ?hr ?_; (case hd => rfl); (case hg => rfl); (case hr => first | (go_simp; done) | (go_simp; rfl)); intro go hg w3 hbox hb; have n0_ := Aside0.mk (below_step HB.out hb); have n1_ := Aside0.mk (blk_below BKT.out hb); have BKO := Aside0.mk hbox; clear HB BKT; have HB := n0_; have BKT := n1_; clear n0_ n1_; clear hb hbox hg)
      | ((with_reducible refine gate_dst (N := 4) rfl ?_); refine box_event ?hg (N := 4) ?hd (cs := #[.slice none 0 0, .int .i64 0]) (t := 46) ?hr ?_; (case hd => rfl); (case hg => rfl); (case hr => first | (go_simp; done) | (go_simp; rfl)); intro g4 hg w4 hbox hb; have n0_ := Aside0.mk (below_step HB.out hb); have n1_ := Aside0.mk (blk_below BKT.out hb); have n2_ := Aside0.mk (blk_below BKO.out hb); have BK4 := Aside0.mk hbox; have G4 := Aside0.mk (show w.heap.size ≤ g4 by rw [hg]; exact below_size HB.out); have N4 := Aside0.mk (show gt ≠ g4 by rw [hg]; exact Nat.ne_of_lt (blk_lt BKT.out)); have N5 := Aside0.mk (show go ≠ g4 by rw [hg]; exact Nat.ne_of_lt (blk_lt BKO.out)); clear HB BKT BKO; have HB := n0_; have BKT := n1_; have BKO := n2_; clear n0_ n1_ n2_; clear hb hbox hg; have t0 : w4.cell? ⟨gt, 0, none⟩ = some (.slice A0_0 l0_0.length c0_0) := (blk_cell BKT.out 0).trans rfl; have t1 : w4.cell? ⟨gt, 1, none⟩ = some (.int .i64 a0_1) := (blk_cell BKT.out 1).trans rfl; have o0 : w4.cell? ⟨go, 0, none⟩ = some (.int .i64 a1_0) := (blk_cell BKO.out 0).trans rfl; have o1 : w4.cell? ⟨go, 1, none⟩ = some (.int .i64 a1_1) := (blk_cell BKO.out 1).trans rfl; have o2 : w4.cell? ⟨go, 2, none⟩ = some (.int .i64 a1_2) := (blk_cell BKO.out 2).trans rfl; have o3 : w4.cell? ⟨go, 3, none⟩ = some (.int .i64 a1_3) := (blk_cell BKO.out 3).trans rfl; have o4 : w4.cell? ⟨go, 4, none⟩ = some (.int .i64 a1_4) := (blk_cell BKO.out 4).trans rfl; have o5 : w4.cell? ⟨go, 5, none⟩ = some (.int .i64 a1_5) := (blk_cell BKO.out 5).trans rfl; have o6 : w4.cell? ⟨go, 6, none⟩ = some (.bool a1_6) := (blk_cell BKO.out 6).trans rfl; have o7 : w4.cell? ⟨go, 7, none⟩ = some (.int .i64 a1_7) := (blk_cell BKO.out 7).trans rfl; have o8 : w4.cell? ⟨go, 8, none⟩ = some (.int .i64 a1_8) := (blk_cell BKO.out 8).trans rfl; have o9 : w4.cell? ⟨go, 9, none⟩ = some (.int .i64 a1_9) := (blk_cell BKO.out 9).trans rfl; have rr0 : w4.cell? ⟨g4, 0, none⟩ = some (.slice none 0 0) := (blk_cell BK4.out 0).trans rfl; have rr1 : w4.cell? ⟨g4, 1, none⟩ = some (.int .i64 0) := (blk_cell BK4.out 1).trans rfl; have rf0 := blk_frozen BK4.out 0; have rf1 := blk_frozen BK4.out 1)
      | (go_at_call 59; refine (table_at.calls A0_0 c0_0 l0_0 a0_1 a1_1 _ _ _ (Kd.C_below HR0.out HB.out) HC0.out HAT.out).mono ?_; rintro e w5 ⟨rfl, hb1⟩; have n0_ := Aside0.mk (below_step HB.out hb1); have n1_ := Aside0.mk (blk_below BKT.out hb1); have n2_ := Aside0.mk (blk_below BKO.out hb1); have n3_ := Aside0.mk (blk_below BK4.out hb1); clear hb1 HB BKT BKO BK4; clear t0 t1 o0 o1 o2 o3 o4 o5 o6 o7 o8 o9 rr0 rr1 rf0 rf1; have HB := n0_; have BKT := n1_; have BKO := n2_; have BK4 := n3_; clear n0_ n1_ n2_ n3_; have t0 : w5.cell? ⟨gt, 0, none⟩ = some (.slice A0_0 l0_0.length c0_0) := (blk_cell BKT.out 0).trans rfl; have t1 : w5.cell? ⟨gt, 1, none⟩ = some (.int .i64 a0_1) := (blk_cell BKT.out 1).trans rfl; have o0 : w5.cell? ⟨go, 0, none⟩ = some (.int .i64 a1_0) := (blk_cell BKO.out 0).trans rfl; have o1 : w5.cell? ⟨go, 1, none⟩ = some (.int .i64 a1_1) := (blk_cell BKO.out 1).trans rfl; have o2 : w5.cell? ⟨go, 2, none⟩ = some (.int .i64 a1_2) := (blk_cell BKO.out 2).trans rfl; have o3 : w5.cell? ⟨go, 3, none⟩ = some (.int .i64 a1_3) := (blk_cell BKO.out 3).trans rfl; have o4 : w5.cell? ⟨go, 4, none⟩ = some (.int .i64 a1_4) := (blk_cell BKO.out 4).trans rfl; have o5 : w5.cell? ⟨go, 5, none⟩ = some (.int .i64 a1_5) := (blk_cell BKO.out 5).trans rfl; have o6 : w5.cell? ⟨go, 6, none⟩ = some (.bool a1_6) := (blk_cell BKO.out 6).trans rfl; have o7 : w5.cell? ⟨go, 7, none⟩ = some (.int .i64 a1_7) := (blk_cell BKO.out 7).trans rfl; have o8 : w5.cell? ⟨go, 8, none⟩ = some (.int .i64 a1_8) := (blk_cell BKO.out 8).trans rfl; have o9 : w5.cell? ⟨go, 9, none⟩ = some (.int .i64 a1_9) := (blk_cell BKO.out 9).trans rfl; have rr0 : w5.cell? ⟨g4, 0, none⟩ = some (.slice none 0 0) := (blk_cell BK4.out 0).trans rfl; have rr1 : w5.cell? ⟨g4, 1, none⟩ = some (.int .i64 0) := (blk_cell BK4.out 1).trans rfl; have rf0 := blk_frozen BK4.out 0; have rf1 := blk_frozen BK4.out 1))
    refine bodyPost_ret (results_ct rfl _ _ g4 46 #[.slice none 0 0, .int .i64 0] (0, 0) _ rfl (by first | exact BK4.out | (refine blk_put (cs := #[.slice none 0 0, .int .i64 0]) ?_ 1 _ rfl; refine blk_put (cs := #[.slice none 0 0, .int .i64 0]) ?_ 0 _ rfl; exact BK4.out)) Try.underlying46 rfl (by kernel_rfl)) rfl ?_
    exact ⟨_, rfl, Kd.R_nil _ _ _ _ _, by first | exact HB.out | exact below_set (below_set HB.out G4.out) G4.out⟩
  | false =>
    rw [hat] at HAT h
    rw [if_neg (by decide)] at h
    clear hat
    by_cases h16 : l0_0.length ≥ 16
    · rw [if_pos h16] at h
      obtain ⟨rfl, rfl, rfl⟩ : [] = r1 ∧ (0 : Int) = r2 ∧ (15 : Int) = r3 := by simpa using h
      have h16b : (16 : Int) ≤ (l0_0.length : Int) := by omega
      clear h
      go_enter Try.func60, Try.ntmps60
      go_wp2_with (first
        | ((with_reducible refine gate_dst (N := 2) rfl ?_); refine box_event ?hg (N := 2) ?hd (cs := #[.slice A0_0 l0_0.length c0_0, .int .i64 a0_1]) (t := 46) ?hr ?_; (case hd => rfl); (case hg => rfl); (case hr => first | (go_simp; done) | (go_simp; rfl)); intro gt hg w2 hbox hb; have n0_ := Aside0.mk (below_step HB.out hb); have BKT := Aside0.mk hbox; have GTT := Aside0.mk (show w.heap.size ≤ gt by rw [hg]; exact Nat.le_refl _); clear HB; have HB := n0_; clear n0_; clear hb hbox hg)
        | ((with_reducible refine gate_dst (N := 3) rfl ?_); refine box_event ?hg (N := 3) ?hd (cs := #[.int .i64 a1_0, .int .i64 a1_1, .int .i64 a1_2, .int .i64 a1_3, .int .i64 a1_4, .int .i64 a1_5, .bool a1_6, .int .i64 a1_7, .int .i64 a1_8, .int .i64 a1_9]) (t := 50) ?hr ?_; (case hd => rfl); (case hg => rfl); (case hr => first | (go_simp; done) | (go_simp; rfl)); intro go hg w3 hbox hb; have n0_ := Aside0.mk (below_step HB.out hb); have n1_ := Aside0.mk (blk_below BKT.out hb); have BKO := Aside0.mk hbox; clear HB BKT; have HB := n0_; have BKT := n1_; clear n0_ n1_; clear hb hbox hg)
        | ((with_reducible refine gate_dst (N := 4) rfl ?_); refine box_event ?hg (N := 4) ?hd (cs := #[.slice none 0 0, .int .i64 0]) (t := 46) ?hr ?_; (case hd => rfl); (case hg => rfl); (case hr => first | (go_simp; done) | (go_simp; rfl)); intro g4 hg w4 hbox hb; have n0_ := Aside0.mk (below_step HB.out hb); have n1_ := Aside0.mk (blk_below BKT.out hb); have n2_ := Aside0.mk (blk_below BKO.out hb); have BK4 := Aside0.mk hbox; have G4 := Aside0.mk (show w.heap.size ≤ g4 by rw [hg]; exact below_size HB.out); have N4 := Aside0.mk (show gt ≠ g4 by rw [hg]; exact Nat.ne_of_lt (blk_lt BKT.out)); have N5 := Aside0.mk (show go ≠ g4 by rw [hg]; exact Nat.ne_of_lt (blk_lt BKO.out)); clear HB BKT BKO; have HB := n0_; have BKT := n1_; have BKO := n2_; clear n0_ n1_ n2_; clear hb hbox hg; have t0 : w4.cell? ⟨gt, 0, none⟩ = some (.slice A0_0 l0_0.length c0_0) := (blk_cell BKT.out 0).trans rfl; have t1 : w4.cell? ⟨gt, 1, none⟩ = some (.int .i64 a0_1) := (blk_cell BKT.out 1).trans rfl; have o0 : w4.cell? ⟨go, 0, none⟩ = some (.int .i64 a1_0) := (blk_cell BKO.out 0).trans rfl; have o1 : w4.cell? ⟨go, 1, none⟩ = some (.int .i64 a1_1) := (blk_cell BKO.out 1).trans rfl; have o2 : w4.cell? ⟨go, 2, none⟩ = some (.int .i64 a1_2) := (blk_cell BKO.out 2).trans rfl; have o3 : w4.cell? ⟨go, 3, none⟩ = some (.int .i64 a1_3) := (blk_cell BKO.out 3).trans rfl; have o4 : w4.cell? ⟨go, 4, none⟩ = some (.int .i64 a1_4) := (blk_cell BKO.out 4).trans rfl; have o5 : w4.cell? ⟨go, 5, none⟩ = some (.int .i64 a1_5) := (blk_cell BKO.out 5).trans rfl; have o6 : w4.cell? ⟨go, 6, none⟩ = some (.bool a1_6) := (blk_cell BKO.out 6).trans rfl; have o7 : w4.cell? ⟨go, 7, none⟩ = some (.int .i64 a1_7) := (blk_cell BKO.out 7).trans rfl; have o8 : w4.cell? ⟨go, 8, none⟩ = some (.int .i64 a1_8) := (blk_cell BKO.out 8).trans rfl; have o9 : w4.cell? ⟨go, 9, none⟩ = some (.int .i64 a1_9) := (blk_cell BKO.out 9).trans rfl; have rr0 : w4.cell? ⟨g4, 0, none⟩ = some (.slice none 0 0) := (blk_cell BK4.out 0).trans rfl; have rr1 : w4.cell? ⟨g4, 1, none⟩ = some (.int .i64 0) := (blk_cell BK4.out 1).trans rfl; have rf0 := blk_frozen BK4.out 0; have rf1 := blk_frozen BK4.out 1)
        | (go_at_call 59; refine (table_at.calls A0_0 c0_0 l0_0 a0_1 a1_1 _ _ _ (Kd.C_below HR0.out HB.out) HC0.out HAT.out).mono ?_; rintro e w5 ⟨rfl, hb1⟩; have n0_ := Aside0.mk (below_step HB.out hb1); have n1_ := Aside0.mk (blk_below BKT.out hb1); have n2_ := Aside0.mk (blk_below BKO.out hb1); have n3_ := Aside0.mk (blk_below BK4.out hb1); clear hb1 HB BKT BKO BK4; clear t0 t1 o0 o1 o2 o3 o4 o5 o6 o7 o8 o9 rr0 rr1 rf0 rf1; have HB := n0_; have BKT := n1_; have BKO := n2_; have BK4 := n3_; clear n0_ n1_ n2_ n3_; have t0 : w5.cell? ⟨gt, 0, none⟩ = some (.slice A0_0 l0_0.length c0_0) := (blk_cell BKT.out 0).trans rfl; have t1 : w5.cell? ⟨gt, 1, none⟩ = some (.int .i64 a0_1) := (blk_cell BKT.out 1).trans rfl; have o0 : w5.cell? ⟨go, 0, none⟩ = some (.int .i64 a1_0) := (blk_cell BKO.out 0).trans rfl; have o1 : w5.cell? ⟨go, 1, none⟩ = some (.int .i64 a1_1) := (blk_cell BKO.out 1).trans rfl; have o2 : w5.cell? ⟨go, 2, none⟩ = some (.int .i64 a1_2) := (blk_cell BKO.out 2).trans rfl; have o3 : w5.cell? ⟨go, 3, none⟩ = some (.int .i64 a1_3) := (blk_cell BKO.out 3).trans rfl; have o4 : w5.cell? ⟨go, 4, none⟩ = some (.int .i64 a1_4) := (blk_cell BKO.out 4).trans rfl; have o5 : w5.cell? ⟨go, 5, none⟩ = some (.int .i64 a1_5) := (blk_cell BKO.out 5).trans rfl; have o6 : w5.cell? ⟨go, 6, none⟩ = some (.bool a1_6) := (blk_cell BKO.out 6).trans rfl; have o7 : w5.cell? ⟨go, 7, none⟩ = some (.int .i64 a1_7) := (blk_cell BKO.out 7).trans rfl; have o8 : w5.cell? ⟨go, 8, none⟩ = some (.int .i64 a1_8) := (blk_cell BKO.out 8).trans rfl; have o9 : w5.cell? ⟨go, 9, none⟩ = some (.int .i64 a1_9) := (blk_cell BKO.out 9).trans rfl; have rr0 : w5.cell? ⟨g4, 0, none⟩ = some (.slice none 0 0) := (blk_cell BK4.out 0).trans rfl; have rr1 : w5.cell? ⟨g4, 1, none⟩ = some (.int .i64 0) := (blk_cell BK4.out 1).trans rfl; have rf0 := blk_frozen BK4.out 0; have rf1 := blk_frozen BK4.out 1))
      refine bodyPost_ret (results_ct rfl _ _ g4 46 #[.slice none 0 0, .int .i64 0] (0, 0) _ rfl (by first | exact BK4.out | (refine blk_put (cs := #[.slice none 0 0, .int .i64 0]) ?_ 1 _ rfl; refine blk_put (cs := #[.slice none 0 0, .int .i64 0]) ?_ 0 _ rfl; exact BK4.out)) Try.underlying46 rfl (by kernel_rfl)) rfl ?_
      exact ⟨_, rfl, Kd.R_nil _ _ _ _ _, by first | exact HB.out | exact below_set (below_set HB.out G4.out) G4.out⟩
    · rw [if_neg h16] at h
      obtain ⟨rfl, rfl, rfl⟩ : insR l0_0 ⟨⟨a1_1, a1_2, a1_3, a1_4, a1_5⟩, a1_6⟩ = r1 ∧ a0_1 = r2 ∧ (0 : Int) = r3 := by simpa using h
      have h16b : (l0_0.length : Int) < 16 := by omega
      have HINS : Aside0 (l0_0.take p ++ [(⟨⟨a1_1, a1_2, a1_3, a1_4, a1_5⟩, a1_6⟩ : S60)] ++ l0_0.drop p = insR l0_0 ⟨⟨a1_1, a1_2, a1_3, a1_4, a1_5⟩, a1_6⟩) := ⟨by unfold insR; simp only; rw [HP.out]⟩
      have H16 := Aside0.mk h16
      clear h h16
      go_enter Try.func60, Try.ntmps60
      go_wp2_with (first
        | ((with_reducible refine gate_dst (N := 2) rfl ?_); refine box_event ?hg (N := 2) ?hd (cs := #[.slice A0_0 l0_0.length c0_0, .int .i64 a0_1]) (t := 46) ?hr ?_; (case hd => rfl); (case hg => rfl); (case hr => first | (go_simp; done) | (go_simp; rfl)); intro gt hg w2 hbox hb; have n0_ := Aside0.mk (below_step HB.out hb); have BKT := Aside0.mk hbox; have GTT := Aside0.mk (show w.heap.size ≤ gt by rw [hg]; exact Nat.le_refl _); clear HB; have HB := n0_; clear n0_; clear hb hbox hg)
        | ((with_reducible refine gate_dst (N := 3) rfl ?_); refine box_event ?hg (N := 3) ?hd (cs := #[.int .i64 a1_0, .int .i64 a1_1, .int .i64 a1_2, .int .i64 a1_3, .int .i64 a1_4, .int .i64 a1_5, .bool a1_6, .int .i64 a1_7, .int .i64 a1_8, .int .i64 a1_9]) (t := 50) ?hr ?_; (case hd => rfl); (case hg => rfl); (case hr => first | (go_simp; done) | (go_simp; rfl)); intro go hg w3 hbox hb; have n0_ := Aside0.mk (below_step HB.out hb); have n1_ := Aside0.mk (blk_below BKT.out hb); have BKO := Aside0.mk hbox; clear HB BKT; have HB := n0_; have BKT := n1_; clear n0_ n1_; clear hb hbox hg)
        | ((with_reducible refine gate_dst (N := 4) rfl ?_); refine box_event ?hg (N := 4) ?hd (cs := #[.slice none 0 0, .int .i64 0]) (t := 46) ?hr ?_; (case hd => rfl); (case hg => rfl); (case hr => first | (go_simp; done) | (go_simp; rfl)); intro g4 hg w4 hbox hb; have n0_ := Aside0.mk (below_step HB.out hb); have n1_ := Aside0.mk (blk_below BKT.out hb); have n2_ := Aside0.mk (blk_below BKO.out hb); have BK4 := Aside0.mk hbox; have G4 := Aside0.mk (show w.heap.size ≤ g4 by rw [hg]; exact below_size HB.out); have N4 := Aside0.mk (show gt ≠ g4 by rw [hg]; exact Nat.ne_of_lt (blk_lt BKT.out)); have N5 := Aside0.mk (show go ≠ g4 by rw [hg]; exact Nat.ne_of_lt (blk_lt BKO.out)); clear HB BKT BKO; have HB := n0_; have BKT := n1_; have BKO := n2_; clear n0_ n1_ n2_; clear hb hbox hg; have t0 : w4.cell? ⟨gt, 0, none⟩ = some (.slice A0_0 l0_0.length c0_0) := (blk_cell BKT.out 0).trans rfl; have t1 : w4.cell? ⟨gt, 1, none⟩ = some (.int .i64 a0_1) := (blk_cell BKT.out 1).trans rfl; have o0 : w4.cell? ⟨go, 0, none⟩ = some (.int .i64 a1_0) := (blk_cell BKO.out 0).trans rfl; have o1 : w4.cell? ⟨go, 1, none⟩ = some (.int .i64 a1_1) := (blk_cell BKO.out 1).trans rfl; have o2 : w4.cell? ⟨go, 2, none⟩ = some (.int .i64 a1_2) := (blk_cell BKO.out 2).trans rfl; have o3 : w4.cell? ⟨go, 3, none⟩ = some (.int .i64 a1_3) := (blk_cell BKO.out 3).trans rfl; have o4 : w4.cell? ⟨go, 4, none⟩ = some (.int .i64 a1_4) := (blk_cell BKO.out 4).trans rfl; have o5 : w4.cell? ⟨go, 5, none⟩ = some (.int .i64 a1_5) := (blk_cell BKO.out 5).trans rfl; have o6 : w4.cell? ⟨go, 6, none⟩ = some (.bool a1_6) := (blk_cell BKO.out 6).trans rfl; have o7 : w4.cell? ⟨go, 7, none⟩ = some (.int .i64 a1_7) := (blk_cell BKO.out 7).trans rfl; have o8 : w4.cell? ⟨go, 8, none⟩ = some (.int .i64 a1_8) := (blk_cell BKO.out 8).trans rfl; have o9 : w4.cell? ⟨go, 9, none⟩ = some (.int .i64 a1_9) := (blk_cell BKO.out 9).trans rfl; have rr0 : w4.cell? ⟨g4, 0, none⟩ = some (.slice none 0 0) := (blk_cell BK4.out 0).trans rfl; have rr1 : w4.cell? ⟨g4, 1, none⟩ = some (.int .i64 0) := (blk_cell BK4.out 1).trans rfl; have rf0 := blk_frozen BK4.out 0; have rf1 := blk_frozen BK4.out 1)
        | (go_at_call 59; refine (table_at.calls A0_0 c0_0 l0_0 a0_1 a1_1 _ _ _ (Kd.C_below HR0.out HB.out) HC0.out HAT.out).mono ?_; rintro e w5 ⟨rfl, hb1⟩; have n0_ := Aside0.mk (below_step HB.out hb1); have n1_ := Aside0.mk (blk_below BKT.out hb1); have n2_ := Aside0.mk (blk_below BKO.out hb1); have n3_ := Aside0.mk (blk_below BK4.out hb1); clear hb1 HB BKT BKO BK4; clear t0 t1 o0 o1 o2 o3 o4 o5 o6 o7 o8 o9 rr0 rr1 rf0 rf1; have HB := n0_; have BKT := n1_; have BKO := n2_; have BK4 := n3_; clear n0_ n1_ n2_ n3_; have t0 : w5.cell? ⟨gt, 0, none⟩ = some (.slice A0_0 l0_0.length c0_0) := (blk_cell BKT.out 0).trans rfl; have t1 : w5.cell? ⟨gt, 1, none⟩ = some (.int .i64 a0_1) := (blk_cell BKT.out 1).trans rfl; have o0 : w5.cell? ⟨go, 0, none⟩ = some (.int .i64 a1_0) := (blk_cell BKO.out 0).trans rfl; have o1 : w5.cell? ⟨go, 1, none⟩ = some (.int .i64 a1_1) := (blk_cell BKO.out 1).trans rfl; have o2 : w5.cell? ⟨go, 2, none⟩ = some (.int .i64 a1_2) := (blk_cell BKO.out 2).trans rfl; have o3 : w5.cell? ⟨go, 3, none⟩ = some (.int .i64 a1_3) := (blk_cell BKO.out 3).trans rfl; have o4 : w5.cell? ⟨go, 4, none⟩ = some (.int .i64 a1_4) := (blk_cell BKO.out 4).trans rfl; have o5 : w5.cell? ⟨go, 5, none⟩ = some (.int .i64 a1_5) := (blk_cell BKO.out 5).trans rfl; have o6 : w5.cell? ⟨go, 6, none⟩ = some (.bool a1_6) := (blk_cell BKO.out 6).trans rfl; have o7 : w5.cell? ⟨go, 7, none⟩ = some (.int .i64 a1_7) := (blk_cell BKO.out 7).trans rfl; have o8 : w5.cell? ⟨go, 8, none⟩ = some (.int .i64 a1_8) := (blk_cell BKO.out 8).trans rfl; have o9 : w5.cell? ⟨go, 9, none⟩ = some (.int .i64 a1_9) := (blk_cell BKO.out 9).trans rfl; have rr0 : w5.cell? ⟨g4, 0, none⟩ = some (.slice none 0 0) := (blk_cell BK4.out 0).trans rfl; have rr1 : w5.cell? ⟨g4, 1, none⟩ = some (.int .i64 0) := (blk_cell BK4.out 1).trans rfl; have rf0 := blk_frozen BK4.out 0; have rf1 := blk_frozen BK4.out 1)
        | (go_at_call 62; refine (table_with.calls A0_0 c0_0 l0_0 a0_1 p p _ 1 [(⟨⟨a1_1, a1_2, a1_3, a1_4, a1_5⟩, a1_6⟩ : S60)] _ (Kd.C_below HR0.out (below_alloc HB.out _)) HC0.out (oneRow_C w5 ⟨⟨a1_1, a1_2, a1_3, a1_4, a1_5⟩, a1_6⟩) (by simp) HLE.out HLE.out HM.out (by simp)).mono ?_; rintro e w6 ⟨v6, rfl, hr, hb1⟩; rw [HINS.out] at hr; obtain ⟨A6, c6, rfl⟩ := Kd.R_slice hr; have HR6 := Aside0.mk (Kd.R_lower hr (below_size (below_alloc HB.out _))); clear hr; have n0_ := Aside0.mk (below_step (below_alloc HB.out _) hb1); have n1_ := Aside0.mk (blk_below (blk_alloc BKT.out _) hb1); have n2_ := Aside0.mk (blk_below (blk_alloc BKO.out _) hb1); have n3_ := Aside0.mk (blk_below (blk_alloc BK4.out _) hb1); clear hb1 HB BKT BKO BK4; clear t0 t1 o0 o1 o2 o3 o4 o5 o6 o7 o8 o9 rr0 rr1 rf0 rf1; have HB := n0_; have BKT := n1_; have BKO := n2_; have BK4 := n3_; clear n0_ n1_ n2_ n3_; have t0 : w6.cell? ⟨gt, 0, none⟩ = some (.slice A0_0 l0_0.length c0_0) := (blk_cell BKT.out 0).trans rfl; have t1 : w6.cell? ⟨gt, 1, none⟩ = some (.int .i64 a0_1) := (blk_cell BKT.out 1).trans rfl; have o0 : w6.cell? ⟨go, 0, none⟩ = some (.int .i64 a1_0) := (blk_cell BKO.out 0).trans rfl; have o1 : w6.cell? ⟨go, 1, none⟩ = some (.int .i64 a1_1) := (blk_cell BKO.out 1).trans rfl; have o2 : w6.cell? ⟨go, 2, none⟩ = some (.int .i64 a1_2) := (blk_cell BKO.out 2).trans rfl; have o3 : w6.cell? ⟨go, 3, none⟩ = some (.int .i64 a1_3) := (blk_cell BKO.out 3).trans rfl; have o4 : w6.cell? ⟨go, 4, none⟩ = some (.int .i64 a1_4) := (blk_cell BKO.out 4).trans rfl; have o5 : w6.cell? ⟨go, 5, none⟩ = some (.int .i64 a1_5) := (blk_cell BKO.out 5).trans rfl; have o6 : w6.cell? ⟨go, 6, none⟩ = some (.bool a1_6) := (blk_cell BKO.out 6).trans rfl; have o7 : w6.cell? ⟨go, 7, none⟩ = some (.int .i64 a1_7) := (blk_cell BKO.out 7).trans rfl; have o8 : w6.cell? ⟨go, 8, none⟩ = some (.int .i64 a1_8) := (blk_cell BKO.out 8).trans rfl; have o9 : w6.cell? ⟨go, 9, none⟩ = some (.int .i64 a1_9) := (blk_cell BKO.out 9).trans rfl; have rr0 : w6.cell? ⟨g4, 0, none⟩ = some (.slice none 0 0) := (blk_cell BK4.out 0).trans rfl; have rr1 : w6.cell? ⟨g4, 1, none⟩ = some (.int .i64 0) := (blk_cell BK4.out 1).trans rfl; have rf0 := blk_frozen BK4.out 0; have rf1 := blk_frozen BK4.out 1))
      generalize insR l0_0 ⟨⟨a1_1, a1_2, a1_3, a1_4, a1_5⟩, a1_6⟩ = Y at HR6 ⊢
      refine bodyPost_ret (results_ct rfl _ _ g4 46 #[.slice A6 Y.length c6, .int .i64 a0_1] (0, 0) _ rfl (by refine blk_put (cs := #[.slice A6 Y.length c6, .int .i64 0]) ?_ 1 _ rfl; refine blk_put (cs := #[.slice none 0 0, .int .i64 0]) ?_ 0 _ rfl; exact BK4.out) Try.underlying46 rfl (by kernel_rfl)) rfl ?_
      exact ⟨_, rfl, Kd.R_set (Kd.R_set HR6.out BK4.out (by decide) 0 _) (blk_set BK4.out 0 _) (by decide) 1 _, by first | exact HB.out | exact below_set (below_set HB.out G4.out) G4.out⟩

/-! ### slices_Clone_api_Row: function 61 (by hand) -/
/-- a slice against nil -/
theorem eqlNil {P : Program} (w : World) {t e : TypeId} (a : Option Addr) (l c : Nat) (h : P.underlying t = some (.slice e)) : (binOp .eql t (.slice a l c) (.slice none 0 0)).run P w = .ok (.bool a.isNone) w := by
  have key1 : ∀ d, (Op.equalIn (d + 1) t (.slice a l c) (.slice none 0 0)).run P w = .ok a.isNone w := by
    intro d; cases a <;> simp [Op.equalIn, run_underlying h]
  have key : (Op.equal t (.slice a l c) (.slice none 0 0)).run P w = .ok a.isNone w := key1 9999
  simp only [binOp]
  simp [key]
theorem eqlNil_none {P : Program} (w : World) {t e : TypeId} (l c : Nat) (h : P.underlying t = some (.slice e)) : (binOp .eql t (.slice none l c) (.slice none 0 0)).run P w = .ok (.bool true) w := eqlNil w none l c h
theorem eqlNil_some {P : Program} (w : World) {t e : TypeId} (ad : Addr) (l c : Nat) (h : P.underlying t = some (.slice e)) : (binOp .eql t (.slice (some ad) l c) (.slice none 0 0)).run P w = .ok (.bool false) w := eqlNil w (some ad) l c h
def slices_Clone_api_Row.f (l0 : List S60) : Option (List S60) := if l0.length < 2932031007402 then some l0 else none
set_option maxHeartbeats 8000000 in
set_option maxRecDepth 100000 in
attribute [local go_sem] eqlNil_none eqlNil_some in
theorem slices_Clone_api_Row.calls (A0 : Option Addr) (c0 : Nat) (l0 : List S60) (r : List S60) (w : World) (hr0 : Kd.C k60 w A0 l0.length l0) (hc0 : l0.length ≤ c0) (h : slices_Clone_api_Row.f l0 = some r) :
    Calls Try.prog 61 #[.slice A0 l0.length c0] w fun e w' => ∃ v0_ : Value, e = .returned (v0_) ∧ Kd.R k60 60 w' w.heap.size (fun _ => True) v0_ r ∧ Below w.heap.size w w' := by
  have HR0 := Aside0.mk hr0
  have HC0 := Aside0.mk hc0
  clear hc0
  have HB := Aside0.mk (Below.refl w.heap.size w)
  have hq := Try.underlying44
  unfold slices_Clone_api_Row.f at h
  by_cases c2 : l0.length < 2932031007402
  case neg => rw [if_neg c2] at h; cases h
  rw [if_pos c2] at h
  obtain rfl := Option.some.inj h
  clear h
  cases A0 with
  | none =>
    have hl : l0 = [] := by
      rcases Nat.eq_zero_or_pos l0.length with h0 | h0
      · exact List.length_eq_zero_iff.1 h0
      · have h3 := hr0.2.2 h0; simp at h3
    subst hl
    clear hr0
    go_enter Try.func61, Try.ntmps61
    go_wp2
    go_ret
    exact ⟨_, rfl, Kd.R_nil _ _ _ _ _, HB.out⟩
  | some ad =>
    clear hr0
    have Ny145 : Aside0 (([] : List S60) = []) := ⟨rfl⟩
    have LMc2 : Aside0 (([] : List S60).length + l0.length < 2932031007402) := ⟨by simpa using c2⟩
    clear c2
    obtain ⟨y145, hy145⟩ : ∃ y_ : List (S60), y_ = (([] : List (S60))) := ⟨_, rfl⟩
    rw [← hy145] at LMc2
    clear Ny145
    have Ny145 := Aside0.mk hy145
    have E_ : y145 ++ l0 = l0 := by rw [hy145]; rfl
    clear hy145
    obtain ⟨y148, hy148⟩ : ∃ y_ : List (S60), y_ = (y145 ++ l0) := ⟨_, rfl⟩
    have E2_ := hy148.trans E_
    clear E_
    have Ny148 := Aside0.mk hy148
    clear hy148
    have E3_ := Lib.hid E2_
    clear E2_
    go_enter Try.func61, Try.ntmps61
    go_wp2_with (first | ((with_reducible refine gate_dst (N := 5) rfl ?_); refine Kd.R_lit k60 _ 60 ?hg (N := 5) ?hd (xs := ([] : List (S60))) (inner := []) (ok := fun _ => True) (okp := fun _ => True) ?hr ?hp (fun _ hk => hk) trivial (Below.refl _ _) (Nat.le_refl _) (by simp) ?_; (case hd => rfl); (case hg => rfl); (case hr => first | (go_simp; done) | (go_simp; rfl)); (case hp => exact (Reps.none _ _)); intro v146 w3 ho4 hb hg_ hnew_; clear hg_ hnew_; (first | rw [← Ny145.out] at ho4 | (simp only [Int.reduceToNat] at ho4; rw [← Ny145.out] at ho4)); have n0_ := Aside0.mk (Kd.R_lower ho4 (below_size bl_)); have n1_ := Aside0.mk (below_step bl_ hb); clear HB; have HO147 := n0_; have HB := n1_; clear n0_ n1_; clear hb ho4) | ((with_reducible refine gate_builtin (b := .append) (xs := #[.tmp 5, .tmp 6]) rfl ?_); at_builtin; refine Kd.R_append_rows k60 (w0 := w) w.heap.size rfl (.tmp 5) (.tmp 6) 44 60 (.agg #[(.int .i64 0), (.int .i64 0), (.int .i64 0), (.int .i64 0), (.int .i64 0), (.bool false)]) 48 rfl Try.underlying44 info60 rfl (by decide) (by omega) v146 y145 l0 _ _ _ (fun _ => True) (fun _ => False) rfl rfl ?aO ?aR (fun _ _ h => h) (fun _ h => h.elim) ?aF ?aB ?aS ?aL ?_; (case aR => repeat (first | exact (Kd.C_below HR0.out HB.out) | (with_reducible refine Kd.C_alloc ?_ _) | (with_reducible refine Kd.C_drewN ?_ _) | (with_reducible refine Kd.C_drew ?_))); (case aB => exact bl_); (case aF => exact (fun _ _ => trivial)); (case aO => exact (by (with_reducible repeat (first | apply Kd.R_alloc | apply Kd.R_drewN | apply Kd.R_drew)); exact HO147.out)); (case aS => exact (below_size bl_)); (case aL => have := LMc2.out; omega); intro v149 w5 ho hb hg hat; rw [← Ny148.out] at ho; have n0_ := Aside0.mk (hb); have n1_ := Aside0.mk (ho); clear HB; clear HO147; have HB := n0_; have HO150 := n1_; clear n0_ n1_; clear ho hb hg hat))
    go_ret
    exact ⟨_, rfl, E3_.out ▸ HO150.out, bl_⟩

end Go.Proofs.Ythkagoomlmgcdaa.PJudgeFits
