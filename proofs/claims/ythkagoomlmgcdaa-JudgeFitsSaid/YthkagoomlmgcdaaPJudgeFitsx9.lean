-- Made by px.py (a program of this session, over the kit's printer) out of the translation. Not trusted: Lean checks it.
import Derived.Test.YthkagoomlmgcdaaPJudgeFitsx0
import Derived.Test.YthkagoomlmgcdaaPJudgeFitsx5
import Derived.Test.YthkagoomlmgcdaaPJudgeFitsx7
import Derived.Test.YthkagoomlmgcdaaPJudgeFitsx8
namespace Go.Proofs.Ythkagoomlmgcdaa.PJudgeFits
open Go.RowKit Go.Proofs.YthkagoomlmgcdaaW.PrintWords Go.Proofs.YthkagoomlmgcdaaW.PrintLast Go.Proofs.YthkagoomlmgcdaaW.PrintMore
attribute [local go_sem] max2_int min2_int max_two min_two max_three min_three max_four min_four   -- for this text's walks alone
set_option linter.unusedVariables false
set_option linter.unusedSimpArgs false

/-! ### qpa_Test: function 44 (by hand) -/
theorem may_yes {l : List S31} {x : Int} (h : okL l) (h0 : 0 ≤ x) (h1 : x ≤ 1099511627776) : demand_may.f l x = some true := by
 unfold demand_may.f; rw [row_yes h]; simp only [Option.bind_some, if_true]; rw [if_pos h0]; simp [h1]
theorem may_no {l : List S31} {x : Int} (h : ¬ (okL l ∧ 0 ≤ x ∧ x ≤ 1099511627776)) : demand_may.f l x = some false := by
 unfold demand_may.f
 by_cases hl : okL l
 ·rw [row_yes hl]; simp only [Option.bind_some, if_true]
  by_cases h0 : 0 ≤ x
  ·rw [if_pos h0]; have : ¬ x ≤ 1099511627776 := fun h1 => h ⟨hl, h0, h1⟩
   simp [this]
  ·rw [if_neg h0]
 ·rw [row_no hl]; rfl
theorem many_is {s : S31} {x : Int} (h : (tk s).ok) (h0 : -1 ≤ x) (h1 : x ≤ 1099511627777) : demand_many.f s.f0 s.f1 s.f2 s.f3 s.f4 x = some (Hm.many (tk s) x) := by
 obtain ⟨_, _, h2, h3, h4, h5, _, _⟩ := h
 simp only [tk] at h2 h3 h4 h5
 unfold demand_many.f
 by_cases hd : x < s.f2
 ·rw [if_pos hd, Hm.many_lo (show x < (tk s).d from hd)]
 ·rw [if_neg hd, if_neg (by omega), Hm.many_hi (show (tk s).d ≤ x from Int.not_lt.1 hd)]
  show _ = some ((x - s.f2) / s.f3 + 1)
  have hq := Hm.quo_lo (x - s.f2) (show 0 < s.f3 by omega)
  have hn := Int.ediv_nonneg (show 0 ≤ x - s.f2 by omega) (show 0 ≤ s.f3 by omega)
  have hm : (x - s.f2) / s.f3 ≤ s.f3 * ((x - s.f2) / s.f3) := by
   have := Int.mul_le_mul_of_nonneg_right (show 1 ≤ s.f3 by omega) hn; omega
  rw [w64 (n := x - s.f2) (by omega) (by omega), Int.tdiv_eq_ediv_of_nonneg (by omega), w64 (n := (x - s.f2) / s.f3) (by omega) (by omega), w64 (by omega) (by omega)]
theorem of_loop {x : Int} (h0 : 0 ≤ x) (h1 : x ≤ 1099511627776) (suf : List S31) : ∀ (pre : List S31) (k : Nat) (acc : Int), okL (pre ++ suf) → suf.length < k → 0 ≤ acc → acc ≤ (pre.length : Int) * 2000000000000 →
  demand_Of.l0 k x acc (pre ++ suf) ((pre ++ suf).length : Int) (pre.length : Int) = some (acc + Hm.of (suf.map tk) x) := by
 induction suf with
 | nil =>
  intro pre k acc _ hk _ _
  obtain ⟨k, rfl⟩ := some_k hk
  simp only [demand_Of.l0, List.append_nil, List.map_nil, Hm.of]
  rw [if_neg (by omega)]; simp
 | cons s suf ih =>
  intro pre k acc hok hk ha hb
  obtain ⟨k, rfl⟩ := some_k (show 0 < k by omega)
  have hs : (tk s).ok := hok.2 s (by simp)
  have hw := Hm.work_le hs h0
  have hlen := hok.1
  simp only [List.length_append, List.length_cons] at hlen hk
  have hc : (tk s).c = s.f1 := rfl
  rw [hc] at hw
  have i1 : ((pre ++ s :: suf).length : Int) = (pre.length : Int) + ((suf.length : Int) + 1) := by simp
  have i2 := ih (pre ++ [s]) k (acc + s.f1 * Hm.many (tk s) x) (by simpa using hok) (by omega) (by omega) (by simp only [List.length_append, List.length_singleton]; omega)
  simp only [List.append_assoc, List.cons_append, List.nil_append] at i2
  have i3 : ((pre ++ [s]).length : Int) = (pre.length : Int) + 1 := by simp
  rw [i3] at i2
  simp only [demand_Of.l0]
  rw [if_pos (by omega), if_pos (by omega), if_pos (by omega), rd_mid, many_is hs (by omega) (by omega)]
  simp only [Option.bind_some]
  rw [w64 (n := s.f1 * Hm.many (tk s) x) (by omega) (by omega), w64 (n := acc + s.f1 * Hm.many (tk s) x) (by omega) (by omega), w64 (n := (pre.length : Int) + 1) (by omega) (by omega), i2]
  simp only [List.map_cons, Hm.of, hc]
  congr 1; omega
theorem Of_yes {l : List S31} {x : Int} (k : Nat) (h : okL l) (h0 : 0 ≤ x) (h1 : x ≤ 1099511627776) (hk : 17 ≤ k) : demand_Of.f k l x = some (Hm.of (l.map tk) x) := by
 unfold demand_Of.f
 rw [may_yes h h0 h1]; simp only [Option.bind_some, if_true]
 have := of_loop h0 h1 l [] k 0 (by simpa using h) (by have := h.1; omega) (by omega) (by simp)
 simpa using this
theorem Of_no {l : List S31} {x : Int} (k : Nat) (h : ¬ (okL l ∧ 0 ≤ x ∧ x ≤ 1099511627776)) : demand_Of.f k l x = some 0 := by
 unfold demand_Of.f
 rw [may_no h]; simp only [Option.bind_some]; rfl
def mayB (l : List S31) (x : Int) : Bool := rowB l && (decide (0 ≤ x) && decide (x ≤ 1099511627776))
theorem mayB_ok {l : List S31} {x : Int} : mayB l x = true ↔ okL l ∧ 0 ≤ x ∧ x ≤ 1099511627776 := by
 unfold mayB
 simp only [Bool.and_eq_true, decide_eq_true_eq, rowB_ok]
theorem may_is (l : List S31) (x : Int) : demand_may.f l x = some (mayB l x) := by
 by_cases h : mayB l x = true
 ·obtain ⟨h1, h2, h3⟩ := mayB_ok.1 h
  rw [may_yes h1 h2 h3, h]
 ·rw [may_no (fun h' => h (mayB_ok.2 h')), Bool.eq_false_iff.2 h]
def ofV (l : List S31) (x : Int) : Int := if mayB l x = true then Hm.of (l.map tk) x else 0
theorem Of_all (k : Nat) (l : List S31) (x : Int) (hk : 17 ≤ k) : demand_Of.f k l x = some (ofV l x) := by
 unfold ofV
 by_cases h : mayB l x = true
 ·obtain ⟨h1, h2, h3⟩ := mayB_ok.1 h
  rw [if_pos h, Of_yes k h1 h2 h3 hk]
 ·rw [if_neg h, Of_no k (fun h' => h (mayB_ok.2 h'))]
theorem before_loop {x : Int} (h0 : 0 ≤ x) (h1 : x ≤ 1099511627776) (suf : List S31) : ∀ (pre : List S31) (k : Nat) (m : Int), okL (pre ++ suf) → suf.length < k → 0 ≤ m →
  demand_Before.l0 k x m (pre ++ suf) ((pre ++ suf).length : Int) (pre.length : Int) = some (Hm.bef m (suf.map tk) x, decide (Hm.bef m (suf.map tk) x > 0)) := by
 induction suf with
 | nil =>
  intro pre k m _ hk _
  obtain ⟨k, rfl⟩ := some_k hk
  simp only [demand_Before.l0, List.append_nil, List.map_nil, Hm.bef]
  rw [if_neg (by omega)]
 | cons s suf ih =>
  intro pre k m hok hk hm
  obtain ⟨k, rfl⟩ := some_k (show 0 < k by omega)
  have hs : (tk s).ok := hok.2 s (by simp)
  have hlen := hok.1
  simp only [List.length_append, List.length_cons] at hlen hk
  obtain ⟨_, _, h2, h3, h4, h5, _, _⟩ := id hs
  have hd : (tk s).d = s.f2 := rfl
  have ht : (tk s).t = s.f3 := rfl
  have i1 : ((pre ++ s :: suf).length : Int) = (pre.length : Int) + ((suf.length : Int) + 1) := by simp
  have hlast : Hm.last (tk s) x = s.f2 + s.f3 * (Hm.many (tk s) (x - 1) - 1) := rfl
  simp only [demand_Before.l0]
  rw [if_pos (by omega), if_pos (by omega), if_pos (by omega), rd_mid, w64 (n := x - 1) (by omega) (by omega), many_is hs (by omega) (by omega)]
  simp only [Option.bind_some]
  simp only [List.map_cons, Hm.bef]
  by_cases hp : 0 < Hm.many (tk s) (x - 1)
  ·have hl := Hm.last_lt (t := tk s) (x := x) (by omega) hp
   rw [hlast, hd] at hl
   rw [hd] at h3 h4; rw [ht] at h4 h5
   have hmm := Int.mul_nonneg (show 0 ≤ s.f3 by omega) (show 0 ≤ Hm.many (tk s) (x - 1) - 1 by omega)
   have hm3 : Hm.many (tk s) (x - 1) - 1 ≤ s.f3 * (Hm.many (tk s) (x - 1) - 1) := by
    have := Int.mul_le_mul_of_nonneg_right (show 1 ≤ s.f3 by omega) (show 0 ≤ Hm.many (tk s) (x - 1) - 1 by omega); omega
   rw [if_pos hp, if_pos hp, w64 (n := Hm.many (tk s) (x - 1) - 1) (by omega) (by omega), w64 (n := s.f3 * (Hm.many (tk s) (x - 1) - 1)) (by omega) (by omega), w64 (n := s.f2 + s.f3 * (Hm.many (tk s) (x - 1) - 1)) (by omega) (by omega), w64 (n := (pre.length : Int) + 1) (by omega) (by omega)]
   have i2 := ih (pre ++ [s]) k (mx m (s.f2 + s.f3 * (Hm.many (tk s) (x - 1) - 1))) (by simpa using hok) (by omega) (by unfold mx; split <;> omega)
   simp only [List.append_assoc, List.cons_append, List.nil_append] at i2
   rw [show ((pre ++ [s]).length : Int) = (pre.length : Int) + 1 from by simp] at i2
   rw [i2, hlast]
   rfl
  ·rw [if_neg hp, if_neg hp, w64 (n := (pre.length : Int) + 1) (by omega) (by omega)]
   have i2 := ih (pre ++ [s]) k m (by simpa using hok) (by omega) hm
   simp only [List.append_assoc, List.cons_append, List.nil_append] at i2
   rw [show ((pre ++ [s]).length : Int) = (pre.length : Int) + 1 from by simp] at i2
   exact i2
theorem Before_is {l : List S31} {x : Int} (k : Nat) (h : okL l) (h0 : 0 ≤ x) (h1 : x ≤ 1099511627776) (hk : 17 ≤ k) :
  demand_Before.f k l x = some (Hm.before (l.map tk) x, decide (Hm.before (l.map tk) x > 0)) := by
 unfold demand_Before.f
 rw [may_yes h h0 h1]; simp only [Option.bind_some, if_true]
 have hl := h.1
 have := before_loop h0 h1 l [] k 0 (by simpa using h) (by omega) (by omega)
 simpa [Hm.before] using this
theorem Before_no {l : List S31} {x : Int} (k : Nat) (h : ¬ (okL l ∧ 0 ≤ x ∧ x ≤ 1099511627776)) : demand_Before.f k l x = some (0, false) := by
 unfold demand_Before.f
 rw [may_no h]; rfl
def beforeV (l : List S31) (x : Int) : Int × Bool := if mayB l x = true then (Hm.before (l.map tk) x, decide (Hm.before (l.map tk) x > 0)) else (0, false)
theorem Before_all (k : Nat) (l : List S31) (x : Int) (hk : 17 ≤ k) : demand_Before.f k l x = some (beforeV l x) := by
 unfold beforeV
 by_cases h : mayB l x = true
 ·obtain ⟨h1, h2, h3⟩ := mayB_ok.1 h
  rw [if_pos h, Before_is k h1 h2 h3 hk]
 ·rw [if_neg h, Before_no k (fun h' => h (mayB_ok.2 h'))]
/-- The least deadline. -/
def leastV (l : List S31) : Int := if rowB l = true then (match l with | [] => 0 | s :: r => Hm.minL s.f2 ((s :: r).map fun t => t.f2)) else 0
theorem bleast_loop (suf : List S31) : ∀ (pre : List S31) (k : Nat) (m : Int), (pre ++ suf).length ≤ 1000000000000000000 → suf.length < k →
  busy_Least.l0 k m (pre ++ suf) ((pre ++ suf).length : Int) (pre.length : Int) = some (Hm.minL m (suf.map fun t => t.f2)) := by
 induction suf with
 | nil =>
  intro pre k m _ hk
  obtain ⟨k, rfl⟩ := some_k hk
  simp only [busy_Least.l0, List.append_nil, List.map_nil, Hm.minL]
  rw [if_neg (by omega)]
 | cons s suf ih =>
  intro pre k m hl hk
  obtain ⟨k, rfl⟩ := some_k (show 0 < k by omega)
  simp only [List.length_append, List.length_cons] at hl hk
  have i1 : ((pre ++ s :: suf).length : Int) = (pre.length : Int) + ((suf.length : Int) + 1) := by simp
  have i2 := ih (pre ++ [s]) k (mn m s.f2) (by simp; omega) (by omega)
  simp only [List.append_assoc, List.cons_append, List.nil_append] at i2
  rw [show ((pre ++ [s]).length : Int) = (pre.length : Int) + 1 from by simp] at i2
  simp only [busy_Least.l0]
  rw [if_pos (by omega), if_pos (by omega), if_pos (by omega), rd_mid, w64 (by omega) (by omega)]
  exact i2
theorem Least_all (k : Nat) (l : List S31) (hk : 20 ≤ k) : busy_Least.f k l = some (leastV l) := by
 unfold busy_Least.f leastV
 rw [row_is]; simp only [Option.bind_some]
 obtain ⟨k, rfl⟩ := some_k (show 0 < k by omega)
 by_cases h : rowB l = true
 ·rw [if_pos h, if_pos h]
  have hl := ((rowB_ok l).1 h).1
  simp only [busy_Least.j0]
  match l, hl with
  | [], _ => rfl
  | s :: r, hl =>
   have := bleast_loop (s :: r) [] k s.f2 (by simp only [List.nil_append]; omega) (by omega)
   rw [if_neg (by simp; try omega), if_pos (by simp; try omega)]
   simpa [rd_T31] using this
 ·rw [if_neg h, if_neg h]; rfl
-- busy_Length busy_Least demand_Of demand_Before demand_may demand_many param_Row
open PxR in
/-- The block that a path goes by: the list in a variable. -/
structure PathAt (w W : World) (A : Option Addr) (c0 : Nat) (l0 : List S31) (Bl : Nat) : Prop where
 hl : W.heap[Bl]? = some (.cells #[.slice A l0.length c0] 24 (0, 0))
 gl : w.heap.size ≤ Bl
 hb : Below w.heap.size w W
def PathMade (w : World) (A : Option Addr) (c0 : Nat) (l0 : List S31) (e : Ending) (w' : World) : Prop :=
 ∃ Bl, e = .returned (.func (.func 100) #[] #[.pointer (some ⟨Bl, 0, none⟩)]) ∧ PathAt w w' A c0 l0 Bl
set_option maxHeartbeats 4000000 in
set_option maxRecDepth 100000 in
theorem pathMake.calls (A : Option Addr) (c0 : Nat) (l0 : List S31) (w : World) :
  Calls Try.prog 73 #[.slice A l0.length c0] w (PathMade w A c0 l0) := by
 go_enter Try.func73, Try.ntmps73
 go_wp2
 go_ret
 exact ⟨w.heap.size, rfl, heap_alloc_new w _, Nat.le_refl _, below_alloc (Below.refl _ _) _⟩
/-- The times that are looked at, each with its work, from p on, where they end within k. -/
def pathGo (l0 : List S31) (least : Int) : Nat → Int × Bool → Option (List (Int × Int))
 | 0, _ => none
 | c + 1, p => if p.2 = true then (if ofV l0 p.1 > p.1 ∨ ofV l0 p.1 ≤ least then some [(p.1, ofV l0 p.1)] else (pathGo l0 least c (if ofV l0 p.1 < p.1 then (ofV l0 p.1, true) else beforeV l0 p.1)).map ((p.1, ofV l0 p.1) :: ·)) else some []
theorem pathGo_mono (l0 : List S31) (least : Int) : ∀ k p, LeO (pathGo l0 least k p) (pathGo l0 least (k + 1) p)
 | 0, p => fun r h => by simp [pathGo] at h
 | k + 1, p => by
  unfold pathGo
  exact LeO.ite (LeO.ite (LeO.refl _) (LeO.map _ (pathGo_mono l0 least k _))) (LeO.refl _)
theorem pathGo_le {l0 : List S31} {least : Int} {c k : Nat} (hck : c ≤ k) {p : Int × Bool} {r : List (Int × Int)} (h : pathGo l0 least c p = some r) : pathGo l0 least k p = some r :=
 at_rounds (g := fun k => pathGo l0 least k p) (fun k => pathGo_mono l0 least k p) hck h
def boolOf' : Value → Bool | .bool b => b | _ => false
/-- what a round of the loop keeps. -/
def PathKp (w : World) (Bl : Nat) (W W' : World) : Prop := Below w.heap.size W W' ∧ W'.heap[Bl]? = W.heap[Bl]?
set_option maxHeartbeats 4000000 in
set_option maxRecDepth 100000 in
attribute [local go_sem] Oper.semAt_some in
theorem path_seq (A : Option Addr) (c0 : Nat) (l0 : List S31) (w W0 : World) (hr : Kd.C k31 w A l0.length l0) (hc : l0.length ≤ c0) (Bl : Nat) (hs : PathAt w W0 A c0 l0 Bl) (k : Nat) (len er : Int) (hlen : busy_Length.f k l0 = some (len, er)) (xs : List (Int × Int)) (hxs : pathGo l0 (leastV l0) k (beforeV l0 len) = some xs) (n : Nat) (hn : 3 ≤ n) :
  PxR.SeqX Fence.wide n Try.prog 100 #[.pointer (some ⟨Bl, 0, none⟩)] (fun x : Int × Int => #[.int .i64 x.1, .int .i64 x.2]) (PathKp w Bl) (fun _ _ => False) (fun ys => ys = xs) (fun ys => ys <+: xs) xs.length W0 := by
 intro l J Jx W hW hJ hJx hY h0
 refine callsIn_wide.2 ?_
 simp only [List.append_toArray, List.cons_append, List.nil_append]
 have hs1 : PathAt w W A c0 l0 Bl := by
  obtain ⟨h1, h2, h3⟩ := hs
  exact ⟨blk_below h1 hW, h2, below_step h3 hW⟩
 have HLN := Lib.hid (fun (W2 : World) (hW : Below w.heap.size w W2) => busy_Length.calls k A c0 l0 len er W2 (Kd.C_below hr hW) hc hlen)
 have HLS := Lib.hid (fun (W2 : World) (hW : Below w.heap.size w W2) => busy_Least.calls 20 A c0 l0 (leastV l0) W2 (Kd.C_below hr hW) hc (Least_all 20 l0 (by omega)))
 have HBF := Lib.hid (fun (x : Int) (W2 : World) (hW : Below w.heap.size w W2) => demand_Before.calls 20 A c0 l0 x (beforeV l0 x).1 (beforeV l0 x).2 W2 (Kd.C_below hr hW) hc (Before_all 20 l0 x (by omega)))
 have HOF := Lib.hid (fun (x : Int) (W2 : World) (hW : Below w.heap.size w W2) => demand_Of.calls 20 A c0 l0 x (ofV l0 x) W2 (Kd.C_below hr hW) hc (Of_all 20 l0 x (by omega)))
 have c1 : W.cell? ⟨Bl, 0, none⟩ = some (.slice A l0.length c0) := (blk_cell hs1.hl 0).trans rfl
 have HS := Lib.hid hs1
 have HN := Lib.hid hn
 have HJ := Lib.hid hJ
 have HJX := Lib.hid hJx
 have HY := Lib.hid hY
 have H0 := Lib.hid h0
 have HXS := Lib.hid hxs
 clear hs1 hs hW hr hc hn hJ hJx hY h0 hxs hlen
 go_enter Try.func100, Try.ntmps100
 go_wp2_with (first
  | (go_at_call 72; refine (HLN.out _ HS.out.hb).mono ?_; rintro e w1 ⟨rfl, hb1⟩; have HB1 := Lib.hid hb1; have c2 : w1.cell? ⟨Bl, 0, none⟩ = some (.slice A l0.length c0) := (blk_cell (blk_below HS.out.hl hb1) 0).trans rfl; clear hb1)
  | (go_at_call 101; refine (HLS.out _ (below_step HS.out.hb HB1.out)).mono ?_; rintro e w2 ⟨rfl, hb2⟩; have HB2 := Lib.hid (below_step HB1.out hb2); have c3 : w2.cell? ⟨Bl, 0, none⟩ = some (.slice A l0.length c0) := (blk_cell (blk_below HS.out.hl (below_step HB1.out hb2)) 0).trans rfl; clear hb2)
  | (go_at_call 102; refine (HBF.out len _ (below_step HS.out.hb HB2.out)).mono ?_; rintro e w3 ⟨rfl, hb3⟩; have HB3 := Lib.hid (below_step HB2.out hb3); clear hb3))
 refine (wpIn_wide (n := n)).1 ?_
 gi_loopw [6, 7] (fun v6 v7 wr => ∃ (pre : List (Int × Int)) (p : Int × Bool) (c : Nat) (rest : List (Int × Int)), v6 = .int .i64 p.1 ∧ v7 = .bool p.2 ∧ Hid (pathGo l0 (leastV l0) c p = some rest ∧ c ≤ k) ∧ Hid (PathAt w wr A c0 l0 Bl) ∧ Hid (xs = pre ++ rest) ∧ Hid (J pre wr)) (fun v6 v7 _ => ((pathGo l0 (leastV l0) k (intOf v6, boolOf' v7)).getD []).length + (boolOf' v7).toNat)
 case atStart =>
  refine ⟨[], beforeV l0 len, k, xs, rfl, rfl, ⟨HXS.out, Nat.le_refl _⟩, ?_, rfl, ?_⟩
  ·obtain ⟨h1, h2, h3⟩ := HS.out
   exact ⟨blk_below h1 HB3.out, h2, below_step h3 HB3.out⟩
  ·exact HJ.out _ _ _ none H0.out (grown_of_below HB3.out none) (fun r e => by cases e)
 case round =>
  obtain ⟨pre, ⟨x, is⟩, c, rest, rfl, rfl, HP, HA, HX, HJ0⟩ := hrel
  have cl : wr.cell? ⟨Bl, 0, none⟩ = some (.slice A l0.length c0) := (blk_cell HA.out.hl 0).trans rfl
  cases c with
  | zero => exact absurd HP.out.1 (by simp [pathGo])
  | succ c =>
  cases is with
  | false =>
   have HE : Hid (J xs wr) := by
    have h := HP.out.1
    simp [pathGo] at h
    have e : xs = pre := by rw [HX.out, h]; simp
    rw [e]; exact HJ0.out
   gi_wp2
   try rw [Exit.noGoto_normal]
   go_end0
   exact ⟨⟨_, rfl⟩, Or.inl (by first | exact ⟨xs, rfl, HE.out⟩ | exact HE.out)⟩
  | true =>
   have hp := HP.out.1
   unfold pathGo at hp
   rw [if_pos rfl] at hp
   obtain ⟨wk, hwk⟩ : ∃ wk, ofV l0 x = wk := ⟨_, rfl⟩
   have hof := HOF.out x wr HA.out.hb
   simp only [hwk] at hp
   rw [hwk] at hof
   obtain ⟨rest', hrest, hcase⟩ : ∃ rest', rest = (x, wk) :: rest' ∧ ((wk > x ∨ wk ≤ leastV l0) ∧ rest' = [] ∨ ¬ (wk > x ∨ wk ≤ leastV l0) ∧ pathGo l0 (leastV l0) c (if wk < x then (wk, true) else beforeV l0 x) = some rest') := by
    by_cases hc : wk > x ∨ wk ≤ leastV l0
    ·rw [if_pos hc] at hp; cases hp; exact ⟨[], rfl, Or.inl ⟨hc, rfl⟩⟩
    ·rw [if_neg hc] at hp
     obtain ⟨r', hr', e⟩ := Option.map_eq_some_iff.1 hp
     exact ⟨r', e.symm, Or.inr ⟨hc, hr'⟩⟩
   subst hrest
   have HCS := Lib.hid hcase
   have HOF2 := Lib.hid hof
   have hlen : pre.length < xs.length := by rw [HX.out]; simp
   have HLE := Lib.hid hlen
   clear hp hcase hlen hof hwk
   gi_wp2
   refine ⟨trivial, fun _ => by have := HN.out; omega, (callsIn_wide.2 HOF2.out).mono ?_⟩
   rintro e W2 ⟨rfl, hb2⟩
   have HA2 : Hid (PathAt w W2 A c0 l0 Bl) := by
    obtain ⟨h1, h2, h3⟩ := HA.out
    exact ⟨blk_below h1 hb2, h2, below_step h3 hb2⟩
   have HJ2 : Hid (J pre W2) := HJ.out _ _ _ none HJ0.out (grown_of_below hb2 none) (fun r e => by cases e)
   obtain ⟨fn, tmps, assign, body, hy, hR⟩ := HY.out pre (x, wk) W2 HJ2.out HLE.out
   have HR1 := Lib.hid hR
   clear hb2 hR
   gi_wp2
   refine ⟨fun _ => by have := HN.out; omega, HR1.out.mono ?_⟩
   rintro e W3 (⟨rfl, hJ3, hk3⟩ | ⟨rfl, hJx3⟩)
   ·have HA3 : Hid (PathAt w W3 A c0 l0 Bl) := by
     obtain ⟨h1, h2, h3⟩ := HA2.out
     obtain ⟨k1, k2⟩ := hk3
     exact ⟨k2.trans h1, h2, h3.trans k1⟩
    have HJ3 := Lib.hid hJ3
    have c3 : W3.cell? ⟨Bl, 0, none⟩ = some (.slice A l0.length c0) := (blk_cell HA3.out.hl 0).trans rfl
    clear hJ3 hk3
    have fin : (wk > x ∨ wk ≤ leastV l0) → Hid (J xs W3) := fun hc => by
     rcases HCS.out with ⟨_, e⟩ | ⟨h, _⟩
     ·have e2 : xs = pre ++ [(x, wk)] := by rw [HX.out, e]
      rw [e2]; exact HJ3.out
     ·exact absurd hc h
    have HFIN := Lib.hid fin
    clear fin
    by_cases h1 : wk > x
    ·have HE := HFIN.out (Or.inl h1)
     have d1 : decide (x < wk) = true := decide_eq_true h1
     clear h1
     gi_wp2
     try rw [Exit.noGoto_ret]
     try simp only [Exit.inBlock, Exit.then]
     refine bodyPost_ret (results_none rfl _ _ _) rfl ?_
     exact ⟨⟨_, rfl⟩, Or.inl (by first | exact ⟨xs, rfl, HE.out⟩ | exact HE.out)⟩
    ·have d1 : decide (x < wk) = false := decide_eq_false h1
     by_cases h2 : wk ≤ leastV l0
     ·have HE := HFIN.out (Or.inr h2)
      have d2 : decide (wk ≤ leastV l0) = true := decide_eq_true h2
      clear h1 h2
      gi_wp2
      try rw [Exit.noGoto_ret]
      try simp only [Exit.inBlock, Exit.then]
      refine bodyPost_ret (results_none rfl _ _ _) rfl ?_
      exact ⟨⟨_, rfl⟩, Or.inl (by first | exact ⟨xs, rfl, HE.out⟩ | exact HE.out)⟩
     ·have d2 : decide (wk ≤ leastV l0) = false := decide_eq_false h2
      have HNX : Hid (pathGo l0 (leastV l0) c (if wk < x then (wk, true) else beforeV l0 x) = some rest') := by
       rcases HCS.out with ⟨h, _⟩ | ⟨_, h⟩
       ·exact absurd h (by omega)
       ·exact h
      by_cases h3 : wk < x
      ·have d3 : decide (wk < x) = true := decide_eq_true h3
       have HNX2 : Hid (pathGo l0 (leastV l0) c (wk, true) = some rest') := by have := HNX.out; rw [if_pos h3] at this; exact this
       clear h1 h2 h3 HNX
       gi_wp2
       go_roundw
       case rel =>
        exact ⟨pre ++ [(x, wk)], (wk, true), c, rest', rfl, rfl, ⟨HNX2.out, by have := HP.out.2; omega⟩, HA3, by show xs = _; rw [HX.out]; simp, HJ3⟩
       case measure =>
        have e1 := pathGo_le (by have := HP.out.2; omega) HNX2.out (k := k)
        have e2 := pathGo_le HP.out.2 HP.out.1
        simp [intOf, boolOf', e1, e2]
      ·have d3 : decide (wk < x) = false := decide_eq_false h3
       have HNX2 : Hid (pathGo l0 (leastV l0) c (beforeV l0 x) = some rest') := by have := HNX.out; rw [if_neg h3] at this; exact this
       clear h1 h2 h3 HNX
       gi_wp2
       refine ⟨trivial, fun _ => by have := HN.out; omega, (callsIn_wide.2 (HBF.out x _ HA3.out.hb)).mono ?_⟩
       rintro e W4 ⟨rfl, hb4⟩
       have HB4 := Lib.hid hb4
       clear hb4
       gi_wp2
       go_roundw
       case rel =>
        refine ⟨pre ++ [(x, wk)], beforeV l0 x, c, rest', rfl, rfl, ⟨HNX2.out, by have := HP.out.2; omega⟩, ?_, by show xs = _; rw [HX.out]; simp, ?_⟩
        ·obtain ⟨h1, h2, h3⟩ := HA3.out
         exact ⟨blk_below h1 HB4.out, h2, below_step h3 HB4.out⟩
        ·exact HJ.out _ _ _ none HJ3.out (grown_of_below HB4.out none) (fun r e => by cases e)
       case measure =>
        have e1 := pathGo_le (by have := HP.out.2; omega) HNX2.out (k := k)
        have e2 := pathGo_le HP.out.2 HP.out.1
        have e3 := Bool.toNat_le (beforeV l0 x).2
        simp [intOf, boolOf', e1, e2]
        try omega
   ·have HJX3 := Lib.hid hJx3
    clear hJx3
    gi_wp2
    try rw [Exit.noGoto_ret]
    try simp only [Exit.inBlock, Exit.then]
    refine bodyPost_ret (results_none rfl _ _ _) rfl ?_
    exact ⟨⟨_, rfl⟩, Or.inr ⟨pre ++ [(x, wk)], ⟨rest', by rw [HX.out]; simp⟩, HJX3.out⟩⟩
def qpa_Test.f (k : Nat) (l0 : List S31) : Option Int := (busy_Length.f k l0).bind fun ne => if ne.2 = 0 then (pathGo l0 (leastV l0) k (beforeV l0 ne.1)).bind fun xs => some (if xs.all (fun p => decide (p.2 ≤ p.1)) = true then 0 else 17) else some ne.2
theorem qpa_Test.mono : ∀ a0 k, LeO (qpa_Test.f k a0) (qpa_Test.f (k + 1) a0) := by
 intro a0 k
 unfold qpa_Test.f
 exact LeO.bind (busy_Length.mono _ k) (fun e => LeO.ite (LeO.bind (pathGo_mono a0 _ k _) (fun _ => LeO.refl _)) (LeO.refl _))
/-- Some work is too much. -/
def PathBad (l : List (Int × Int)) : Prop := ∃ x ∈ l, x.1 < x.2
theorem path_rebase {w w2 W : World} {A : Option Addr} {c0 : Nat} {l0 : List S31} {Bl : Nat} (h : PathAt w2 W A c0 l0 Bl) (hb : Below w.heap.size w w2) : PathAt w W A c0 l0 Bl := by
 obtain ⟨h1, h2, h3⟩ := h
 exact ⟨h1, Nat.le_trans hb.size h2, below_step hb h3⟩
set_option maxHeartbeats 4000000 in
set_option maxRecDepth 100000 in
attribute [local go_sem] Oper.semAt_some in
theorem qpa_Test.calls (k : Nat) (A0 : Option Addr) (c0 : Nat) (l0 : List S31) (r : Int) (w : World) (hr0 : Kd.C k31 w A0 l0.length l0) (hc0 : l0.length ≤ c0) (h : qpa_Test.f k l0 = some r) :
  Calls Try.prog 44 #[.slice A0 l0.length c0] w fun e w' => e = .returned (.int .i64 r) ∧ Below w.heap.size w w' := by
 have hu := Try.underlying31
 have hmax : l0.length ≤ 9223372036854775807 := Kd.C_max hr0
 unfold qpa_Test.f at h
 obtain ⟨⟨len, er⟩, hlen, h1⟩ := Option.bind_eq_some_iff.mp h
 have HR0 := Aside0.mk hr0
 have HC0 := Aside0.mk hc0
 have HLN := Lib.hid (busy_Length.calls k A0 c0 l0 len er w hr0 hc0 hlen)
 have HLEN := Lib.hid hlen
 clear hr0 hc0 h hlen
 by_cases he : er = 0
 ·subst he
  rw [if_pos rfl] at h1
  obtain ⟨xs, hxs, h2⟩ := Option.bind_eq_some_iff.mp h1
  have HE := Lib.hid (Option.some.inj h2)
  have HXS := Lib.hid hxs
  clear h1 h2 hxs
  refine (callsIn_wide (n := 5)).1 ?_
  refine callsIn_of_wp_marks Try.func44 rfl trivial ?_ rfl
  simp only [Try.ntmps44, List.size_toArray, List.length_cons, List.length_nil, Nat.reduceAdd, Nat.reduceSub, Array.replicate_succ, Array.replicate_zero, List.push_toArray, List.append_toArray, List.nil_append, List.cons_append]
  refine (wpIn_wide (n := 5)).2 ?_
  go_wp2
  go_step3
  go_wp2_with (go_at_call 72; refine HLN.out.mono ?_; rintro e w1 ⟨rfl, hb1⟩; have HB1 := Lib.hid hb1; clear hb1)
  go_step3
  go_wp2_with (go_at_call 73; refine (pathMake.calls A0 c0 l0 _).mono ?_; rintro e w2 ⟨Bl, rfl, hst⟩; have HST := Lib.hid hst; clear hst)
  have hst := HST.out
  have hst2 : PathAt w w2 A0 c0 l0 Bl := path_rebase hst (below_alloc HB1.out _)
  obtain ⟨be, hbe⟩ : ∃ b, w1.heap.size = b := ⟨_, rfl⟩
  have he2 : w2.heap[be]? = some (.cells #[.bool true] 4 (0, 0)) := (hst.hb.block _ (by simp; omega)).trans (by rw [← hbe]; exact heap_alloc_new w1 _)
  have hw1 : w.heap.size ≤ be := by have := HB1.out.size; omega
  have sl : be < Bl := by have := hst.gl; simp at this; omega
  have zl : Bl < w2.heap.size := (Array.getElem?_eq_some_iff.1 hst.hl).1
  rw [hbe]
  clear hst HST hbe HB1
  refine (wpIn_wide (n := 5)).1 ?_
  refine PxR.rangeX rfl (by omega) (gf := 100) (lb := #[.pointer (some ⟨Bl, 0, none⟩)]) rfl trivial (enters_of Try.func100 (by kernel_rfl) rfl) (path_seq A0 c0 l0 w w2 HR0.out HC0.out Bl hst2 k len 0 HLEN.out xs HXS.out 4 (by omega)) ?kt ?kb (Below.refl _ _) (fun _ => rfl) ?ok (fun pre W => Below w.heap.size w W ∧ w2.heap.size ≤ W.heap.size ∧ W.heap[be]? = some (.cells #[.bool true] 4 (0, 0)) ∧ ∀ x ∈ pre, x.2 ≤ x.1) (fun c pre W => c = .exit 0 ∧ Below w.heap.size w W ∧ PathBad pre ∧ W.heap[be]? = some (.cells #[.bool false] 4 (0, 0))) ?hI ?hIx ⟨hst2.hb, Nat.le_refl _, he2, fun x hx => by cases hx⟩ (fun x => { tmps := #[.slice A0 l0.length c0, undef, .int .i64 0, .int .i64 len, .int .i64 0, .pointer (some ⟨be, 0, none⟩), .int .i64 x.1, .int .i64 x.2, .tuple #[.int .i64 len, .int .i64 0], .slice A0 l0.length c0, .tuple #[.int .i64 len, .int .i64 0], .int .i64 len, .int .i64 0, .int .i64 0, .bool false, undef, .slice A0 l0.length c0, .func (.func 100) #[] #[.pointer (some ⟨Bl, 0, none⟩)], .int .i64 x.1, .int .i64 x.2, undef, undef, undef, undef, undef, undef, undef], defers := [] }) ?assign ?body ?done ?stop
  case kt => exact fun h k => ⟨h.1.trans k.1, k.2.trans h.2⟩
  case kb =>
   intro W o o' h _
   have hz := (Array.getElem?_eq_some_iff.1 h).1
   exact ⟨(Below.refl _ W).grown (grownBy_putObj' W _ o') (by omega) (fun k e => by cases e; omega), World.putObj_heap_other (by omega)⟩
  case ok => exact fun r hr => hr.elim
  case hI =>
   rintro s A B row ⟨h1, hs, h3, h4⟩ hgr hr
   have hz := (Array.getElem?_eq_some_iff.1 h3).1
   have ho : ∀ r, row = some r → r = w2.heap.size ∨ r = w2.heap.size + 1 := fun r e => by
    rcases hr r e with h | ⟨h, _⟩
    ·exact h.elim
    ·exact h
   exact ⟨h1.grown hgr (by omega) (fun r e => by have := ho r e; omega), Nat.le_trans hs hgr.size, PxR.blk_other hgr h3 (fun e => by have := ho _ e.symm; omega), h4⟩
  case hIx =>
   rintro c s A B row ⟨hc, h1, h2, h5⟩ hgr hr
   have hz := (Array.getElem?_eq_some_iff.1 h5).1
   have ho : ∀ r, row = some r → r = w2.heap.size ∨ r = w2.heap.size + 1 := fun r e => by
    rcases hr r e with h | ⟨h, _⟩
    ·exact h.elim
    ·exact h
   exact ⟨hc, h1.grown hgr (by omega) (fun r e => by have := ho r e; omega), h2, PxR.blk_other hgr h5 (fun e => by have := ho _ e.symm; omega)⟩
  case assign =>
   intro l x W K hK
   gi_wp2
   exact hK
  case body =>
   rintro l pre ⟨x, wk⟩ W ⟨hb, hs, h3, h4⟩ _
   have H3 := Lib.hid h3
   have H4 := Lib.hid h4
   have HB := Lib.hid hb
   have cb : W.cell? ⟨be, 0, none⟩ = some (.bool true) := (blk_cell h3 0).trans rfl
   have fb : W.frozen? ⟨be, 0, none⟩ = false := blk_frozen h3 0
   have HZ : Hid (Bl < W.heap.size ∧ w2.heap.size ≤ W.heap.size ∧ be < W.heap.size) := ⟨by omega, hs, by omega⟩
   clear h3 h4 hb
   by_cases ho : wk ≤ x
   ·have HO := Lib.hid ho
    have hd : decide (wk ≤ x) = true := decide_eq_true ho
    clear ho
    gi_wp2
    refine ⟨KeepsOthers.setCell _ _ _, ⟨(Below.refl w.heap.size W).setCell (p := ⟨be, 0, none⟩) hw1 _, Below.heap_setCell W ⟨be, 0, none⟩ _ _ (by show _ ≠ be; omega)⟩, HB.out.setCell (p := ⟨be, 0, none⟩) hw1 _, by simpa using HZ.out.2.1, by simpa using blk_set H3.out 0 (.bool true), ?_⟩
    intro y hy
    rcases List.mem_append.1 hy with h | h
    ·exact H4.out y h
    ·have : y = (x, wk) := by simpa using h
     subst this; exact HO.out
   ·have HO := Lib.hid ho
    have hd : decide (wk ≤ x) = false := decide_eq_false ho
    clear ho
    gi_wp2
    exact ⟨KeepsOthers.setCell _ _ _, rfl, HB.out.setCell (p := ⟨be, 0, none⟩) hw1 _, ⟨(x, wk), by simp, by have := HO.out; show x < wk; omega⟩, by simpa using blk_set H3.out 0 (.bool false)⟩
  case done =>
   rintro D ys W hD rfl ⟨hb, hs, h3, h4⟩ hK
   have c1 : W.cell? ⟨be, 0, none⟩ = some (.bool true) := (blk_cell h3 0).trans rfl
   have H4 := Lib.hid h4
   have HB := Lib.hid hb
   have HK := Lib.hid hK
   clear h3 h4 hb hK
   go_wp2
   rw [Exit.noGoto_ret]
   refine ⟨by simp, .inl ⟨_, _, rfl, run_takeDeferred HK.out, ?_⟩⟩
   have hz := (Array.getElem?_eq_some_iff.1 HK.out).1
   have he := HE.out
   rw [if_pos (by rw [List.all_eq_true]; intro x hx; exact decide_eq_true (H4.out x hx))] at he
   exact ⟨_, results_tmp rfl _ _ _, by cases he; rfl, HB.out.grown (grownBy_putObj' _ D (.deferred none)) (by show _ ≤ W.heap.size; have := HB.out.size; omega) (fun k e => by cases e; omega)⟩
  case stop =>
   rintro D c pre W hD hpre ⟨rfl, hb, h2, h5⟩ hK
   have c1 : W.cell? ⟨be, 0, none⟩ = some (.bool false) := (blk_cell h5 0).trans rfl
   have H := Lib.hid h2
   have HB := Lib.hid hb
   have HK := Lib.hid hK
   have HP := Lib.hid hpre
   clear h2 h5 hb hK hpre
   gi_wp2
   go_wp2
   rw [Exit.noGoto_ret]
   refine ⟨by simp, .inl ⟨_, _, rfl, run_takeDeferred HK.out, ?_⟩⟩
   have hz := (Array.getElem?_eq_some_iff.1 HK.out).1
   obtain ⟨t, ht⟩ := HP.out
   obtain ⟨x, hx, hlt⟩ := H.out
   have he := HE.out
   rw [if_neg (by
    intro hall
    rw [List.all_eq_true] at hall
    have := of_decide_eq_true (hall x (by rw [← ht]; exact List.mem_append_left _ hx))
    omega)] at he
   exact ⟨_, results_tmp rfl _ _ _, by cases he; rfl, HB.out.grown (grownBy_putObj' _ D (.deferred none)) (by show _ ≤ W.heap.size; have := HB.out.size; omega) (fun k e => by cases e; omega)⟩
 ·rw [if_neg he] at h1
  have HE := Lib.hid (Option.some.inj h1)
  have hne : (er != 0) = true := by simpa using he
  have hne2 : (er == 0) = false := by simpa using he
  clear h1 he
  go_enter Try.func44, Try.ntmps44
  go_wp2
  go_step3
  go_wp2_with (go_at_call 72; refine HLN.out.mono ?_; rintro e w1 ⟨rfl, hb1⟩; have HB1 := Lib.hid hb1; clear hb1)
  try rw [Exit.noGoto_ret]
  go_ret
  exact ⟨by cases HE.out; rfl, HB1.out⟩

/-! ### slices_Clone_api_Task: function 96 (by hand) -/
def slices_Clone_api_Task.f (l0 : List S31) : Option (List S31) := if l0.length < 3518437208883 then some l0 else none
set_option maxHeartbeats 8000000 in
set_option maxRecDepth 100000 in
attribute [local go_sem] eqlNil_none eqlNil_some in
theorem slices_Clone_api_Task.calls (A0 : Option Addr) (c0 : Nat) (l0 : List S31) (r : List S31) (w : World) (hr0 : Kd.C k31 w A0 l0.length l0) (hc0 : l0.length ≤ c0) (h : slices_Clone_api_Task.f l0 = some r) :
  Calls Try.prog 96 #[.slice A0 l0.length c0] w fun e w' => ∃ v0_ : Value, e = .returned (v0_) ∧ Kd.R k31 31 w' w.heap.size (fun _ => True) v0_ r ∧ Below w.heap.size w w' := by
 have HR0 := Aside0.mk hr0
 have HC0 := Aside0.mk hc0
 clear hc0
 have HB := Aside0.mk (Below.refl w.heap.size w)
 have hq := Try.underlying24
 unfold slices_Clone_api_Task.f at h
 by_cases c2 : l0.length < 3518437208883
 case neg => rw [if_neg c2] at h; cases h
 rw [if_pos c2] at h
 obtain rfl := Option.some.inj h
 clear h
 cases A0 with
 | none =>
  have hl : l0 = [] := by
   rcases Nat.eq_zero_or_pos l0.length with h0 | h0
   ·exact List.length_eq_zero_iff.1 h0
   ·have h3 := hr0.2.2 h0; simp at h3
  subst hl
  clear hr0
  go_enter Try.func96, Try.ntmps96
  go_wp2
  go_ret
  exact ⟨_, rfl, Kd.R_nil _ _ _ _ _, HB.out⟩
 | some ad =>
  clear hr0
  have Ny145 : Aside0 (([] : List S31) = []) := ⟨rfl⟩
  have LMc2 : Aside0 (([] : List S31).length + l0.length < 3518437208883) := ⟨by simpa using c2⟩
  clear c2
  obtain ⟨y145, hy145⟩ : ∃ y_ : List (S31), y_ = (([] : List (S31))) := ⟨_, rfl⟩
  rw [← hy145] at LMc2
  clear Ny145
  have Ny145 := Aside0.mk hy145
  have E_ : y145 ++ l0 = l0 := by rw [hy145]; rfl
  clear hy145
  obtain ⟨y148, hy148⟩ : ∃ y_ : List (S31), y_ = (y145 ++ l0) := ⟨_, rfl⟩
  have E2_ := hy148.trans E_
  clear E_
  have Ny148 := Aside0.mk hy148
  clear hy148
  have E3_ := Lib.hid E2_
  clear E2_
  go_enter Try.func96, Try.ntmps96
  go_wp2_with (first | ((with_reducible refine gate_dst (N := 5) rfl ?_); refine Kd.R_lit k31 _ 31 ?hg (N := 5) ?hd (xs := ([] : List (S31))) (inner := []) (ok := fun _ => True) (okp := fun _ => True) ?hr ?hp (fun _ hk => hk) trivial (Below.refl _ _) (Nat.le_refl _) (by simp) ?_; (case hd => rfl); (case hg => rfl); (case hr => first | (go_simp; done) | (go_simp; rfl)); (case hp => exact (Reps.none _ _)); intro v146 w3 ho4 hb hg_ hnew_; clear hg_ hnew_; (first | rw [← Ny145.out] at ho4 | (simp only [Int.reduceToNat] at ho4; rw [← Ny145.out] at ho4)); have n0_ := Aside0.mk (Kd.R_lower ho4 (below_size bl_)); have n1_ := Aside0.mk (below_step bl_ hb); clear HB; have HO147 := n0_; have HB := n1_; clear n0_ n1_; clear hb ho4) | ((with_reducible refine gate_builtin (b := .append) (xs := #[.tmp 5, .tmp 6]) rfl ?_); at_builtin; refine Kd.R_append_rows k31 (w0 := w) w.heap.size rfl (.tmp 5) (.tmp 6) 24 31 (.agg #[(.int .i64 0), (.int .i64 0), (.int .i64 0), (.int .i64 0), (.int .i64 0)]) 40 rfl Try.underlying24 info31 rfl (by decide) (by omega) v146 y145 l0 _ _ _ (fun _ => True) (fun _ => False) rfl rfl ?aO ?aR (fun _ _ h => h) (fun _ h => h.elim) ?aF ?aB ?aS ?aL ?_; (case aR => repeat (first | exact (Kd.C_below HR0.out HB.out) | (with_reducible refine Kd.C_alloc ?_ _) | (with_reducible refine Kd.C_drewN ?_ _) | (with_reducible refine Kd.C_drew ?_))); (case aB => exact bl_); (case aF => exact (fun _ _ => trivial)); (case aO => exact (by (with_reducible repeat (first | apply Kd.R_alloc | apply Kd.R_drewN | apply Kd.R_drew)); exact HO147.out)); (case aS => exact (below_size bl_)); (case aL => have := LMc2.out; omega); intro v149 w5 ho hb hg hat; rw [← Ny148.out] at ho; have n0_ := Aside0.mk (hb); have n1_ := Aside0.mk (ho); clear HB; clear HO147; have HB := n0_; have HO150 := n1_; clear n0_ n1_; clear ho hb hg hat))
  go_ret
  exact ⟨_, rfl, E3_.out ▸ HO150.out, bl_⟩

end Go.Proofs.Ythkagoomlmgcdaa.PJudgeFits
