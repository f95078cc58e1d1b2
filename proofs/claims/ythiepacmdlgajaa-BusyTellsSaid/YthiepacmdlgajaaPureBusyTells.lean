/- BusyTells, the plain part: the work, whether all of it may be done, and the least deadline are those of the document. -/
import Derived.Test.YthiepacmdlgajaaPBusyTellsx4
import Derived.Test.YthiepacmdlgajaaMRangeX
import Derived.Test.YthiepacmdlgajaaMDem
import Derived.Test.YthiepacmdlgajaaMWork
import Derived.Test.YthiepacmdlgajaaMDead

namespace Go.Proofs.Ythiepacmdlgajaa.Pure
open Go.RowKit Go.Proofs.Ythiepacmdlgajaa.PBusyTells Go.Proofs.YthiepacmdlgajaaW.PrintWords Go.Proofs.YthiepacmdlgajaaW.PrintLast Go.Proofs.YthiepacmdlgajaaW.PrintMore
set_option linter.unusedVariables false
set_option linter.unusedSimpArgs false

theorem rcheck_is (s : S28) : horariumref09_Check.f s.f0 s.f1 s.f2 s.f3 s.f4 = some (taskB s) := by
  have e : taskB s = true ↔ (tk s).ok := taskB_ok s
  unfold Hm.Tk.ok tk at e
  simp only at e
  unfold horariumref09_Check.f
  by_cases h : taskB s = true
  · obtain ⟨h1, h2, h3, h4, h5, h6, h7, h8⟩ := e.1 h
    rw [h, if_pos (by omega), if_pos (by omega), if_pos (by omega), if_pos (by omega), if_pos (by omega), if_pos (by omega), if_pos (by omega), decide_eq_true h8]
  · have hf : taskB s = false := Bool.eq_false_iff.2 h
    rw [hf]
    repeat' split
    all_goals first | rfl | skip
    all_goals (congr 1; rw [decide_eq_false_iff_not]; intro h8; exact h (e.2 ⟨by omega, by omega, by omega, by omega, by omega, by omega, by omega, h8⟩))

theorem rrowall_loop (suf : List S28) : ∀ (pre : List S28) (k : Nat), (pre ++ suf).length ≤ 1000000000000000000 → suf.length < k → horariumref09_Row.l0 k (pre ++ suf) (pre.length : Int) = some (suf.all taskB && decide ((pre ++ suf).length ≤ 16)) := by
  induction suf with
  | nil =>
    intro pre k hlen hk
    obtain ⟨k, rfl⟩ := some_k hk
    simp only [horariumref09_Row.l0, List.append_nil] at hlen ⊢
    rw [if_neg (by omega)]
    simp only [List.all_nil, Bool.true_and]
    congr 1
    by_cases h : pre.length ≤ 16
    · rw [decide_eq_true h, decide_eq_true (by omega)]
    · rw [decide_eq_false h, decide_eq_false (by omega)]
  | cons s suf ih =>
    intro pre k hlen hk
    obtain ⟨k, rfl⟩ := some_k (show 0 < k by omega)
    have i1 : ((pre ++ s :: suf).length : Int) = (pre.length : Int) + ((suf.length : Int) + 1) := by simp
    have i2 := ih (pre ++ [s]) k (by simpa using hlen) (by simp at hk; omega)
    simp only [List.append_assoc, List.cons_append, List.nil_append] at i2
    rw [show ((pre ++ [s]).length : Int) = (pre.length : Int) + 1 from by simp] at i2
    simp only [horariumref09_Row.l0]
    rw [if_pos (by omega), if_pos (by omega), rd_mid, rcheck_is]
    simp only [Option.bind_some, List.all_cons]
    cases taskB s with
    | false => rfl
    | true =>
      simp only [if_true, Bool.true_and]
      rw [w64 (by omega) (by omega)]
      exact i2
theorem rrow_all (k : Nat) (l : List S28) (hl : l.length ≤ 1000000000000000000) (hk : l.length < k) : horariumref09_Row.f k l = some (rowB l) := by
  have := rrowall_loop l [] k (by simpa using hl) hk
  unfold horariumref09_Row.f rowB
  rw [Bool.and_comm]
  exact this

theorem rwork_no (l : List S28) (x : Int) (b : Bool) (h : ¬ (b = true ∧ 0 < x ∧ x ≤ 1099511627776)) (k : Nat) (hk : 0 < k) : horariumref11_Work.l0 k l x b 0 0 = some 0 := by
  obtain ⟨k, rfl⟩ := some_k hk
  simp only [horariumref11_Work.l0]
  by_cases h0 : (0 : Int) < (l.length : Int)
  · rw [if_pos h0]
    by_cases h1 : b = true
    · rw [if_pos h1]
      by_cases h2 : 0 < x
      · rw [if_pos h2, if_neg (fun h3 => h ⟨h1, h2, h3⟩)]
      · rw [if_neg h2]
    · rw [if_neg h1]
  · rw [if_neg h0]
theorem jobs_ref {s : S28} {x : Int} (h : (tk s).ok) : Hm.jobs (tk s) x = (x - 1) / s.f3 + 1 := by
  obtain ⟨_, _, h2, h3, h4, h5, _, _⟩ := h
  simp only [tk] at h2 h3 h4 h5
  show (x + s.f3 - 1) / s.f3 = _
  rw [show x + s.f3 - 1 = (x - 1) + 1 * s.f3 by omega, Int.add_mul_ediv_right _ _ (by omega)]
theorem rwork_loop {x : Int} (h0 : 0 < x) (h1 : x ≤ 1099511627776) (suf : List S28) : ∀ (pre : List S28) (k : Nat) (acc : Int), okL (pre ++ suf) → suf.length < k → 0 ≤ acc → acc ≤ (pre.length : Int) * 2000000000000 →
    horariumref11_Work.l0 k (pre ++ suf) x true acc (pre.length : Int) = some (acc + Hm.work (suf.map tk) x) := by
  induction suf with
  | nil =>
    intro pre k acc _ hk _ _
    obtain ⟨k, rfl⟩ := some_k hk
    simp only [horariumref11_Work.l0, List.append_nil, List.map_nil, Hm.work]
    rw [if_neg (by omega)]; simp
  | cons s suf ih =>
    intro pre k acc hok hk ha hb
    obtain ⟨k, rfl⟩ := some_k (show 0 < k by omega)
    have hs : (tk s).ok := hok.2 s (by simp)
    have hw := Hm.jobw_le hs (show 0 ≤ x by omega)
    have hlen := hok.1
    simp only [List.length_append, List.length_cons] at hlen hk
    have hc : (tk s).c = s.f1 := rfl
    rw [hc] at hw
    have hj := jobs_ref (x := x) hs
    obtain ⟨_, _, h2, h3, h4, h5, _, _⟩ := id hs
    simp only [tk] at h2 h3 h4 h5
    have i1 : ((pre ++ s :: suf).length : Int) = (pre.length : Int) + ((suf.length : Int) + 1) := by simp
    have i2 := ih (pre ++ [s]) k (acc + s.f1 * Hm.jobs (tk s) x) (by simpa using hok) (by omega) (by omega) (by simp only [List.length_append, List.length_singleton]; omega)
    simp only [List.append_assoc, List.cons_append, List.nil_append] at i2
    rw [show ((pre ++ [s]).length : Int) = (pre.length : Int) + 1 from by simp] at i2
    have hq := Int.ediv_nonneg (show 0 ≤ x - 1 by omega) (show 0 ≤ s.f3 by omega)
    have hq2 := Int.ediv_le_self s.f3 (show 0 ≤ x - 1 by omega)
    simp only [horariumref11_Work.l0]
    rw [if_pos (by omega), if_pos trivial, if_pos (by omega), if_pos (by omega), if_pos (by omega), rd_mid, if_neg (by omega), w64 (n := x - 1) (by omega) (by omega), Int.tdiv_eq_ediv_of_nonneg (by omega), w64 (n := (x - 1) / s.f3) (by omega) (by omega), w64 (n := (x - 1) / s.f3 + 1) (by omega) (by omega), ← hj]
    rw [w64 (n := s.f1 * Hm.jobs (tk s) x) (by omega) (by omega), w64 (n := acc + s.f1 * Hm.jobs (tk s) x) (by omega) (by omega), w64 (n := (pre.length : Int) + 1) (by omega) (by omega), i2]
    simp only [List.map_cons, Hm.work, hc]
    congr 1; omega
theorem rWork_all (k : Nat) (l : List S28) (x : Int) (hl : l.length ≤ 1000000000000000000) (hk : l.length + 17 < k) : horariumref11_Work.f k l x = some (workV l x) := by
  unfold horariumref11_Work.f
  rw [rrow_all k l hl (by omega)]; simp only [Option.bind_some]
  by_cases h : rowB l = true ∧ 0 < x ∧ x ≤ 1099511627776
  · have hok := (rowB_ok l).1 h.1
    rw [h.1, workV_yes hok (by omega) h.2.2]
    have := rwork_loop h.2.1 h.2.2 l [] k 0 (by simpa using hok) (by omega) (by omega) (by simp)
    simpa using this
  · rw [rwork_no l x _ h k (by omega)]
    unfold workV
    by_cases h' : (rowB l && (decide (0 ≤ x) && decide (x ≤ 1099511627776))) = true
    · rw [if_pos h']
      simp only [Bool.and_eq_true, decide_eq_true_eq] at h'
      have hx : x = 0 := by
        by_cases hx : 0 < x
        · exact absurd ⟨h'.1, hx, h'.2.2⟩ h
        · omega
      rw [hx, Hm.work_zero (okL_map ((rowB_ok l).1 h'.1))]
    · rw [if_neg h']
def idleV (l : List S28) (x : Int) : Bool := rowB l && (decide (0 ≤ x) && decide (x ≤ 1099511627776)) && decide (workV l x ≤ x)
theorem Idle_all (k : Nat) (l : List S28) (x : Int) (hk : 17 ≤ k) : busy_Idle.f k l x = some (idleV l x) := by
  unfold busy_Idle.f idleV
  rw [bmay_is]; simp only [Option.bind_some]
  cases (rowB l && (decide (0 ≤ x) && decide (x ≤ 1099511627776))) with
  | false => rfl
  | true => simp only [if_true]; rw [Work_all k l x hk]; rfl
theorem rIdle_all (k : Nat) (l : List S28) (x : Int) (hl : l.length ≤ 1000000000000000000) (hk : l.length + 17 < k) : horariumref11_Idle.f k l x = some (idleV l x) := by
  unfold horariumref11_Idle.f idleV
  rw [rrow_all k l hl (by omega)]; simp only [Option.bind_some]
  cases rowB l with
  | false => rfl
  | true =>
    simp only [if_true, Bool.true_and]
    by_cases h0 : 0 ≤ x
    · rw [if_pos h0, decide_eq_true h0]
      by_cases h1 : x ≤ 1099511627776
      · rw [if_pos h1, decide_eq_true h1, rWork_all k l x hl hk]; rfl
      · rw [if_neg h1, decide_eq_false h1]; rfl
    · rw [if_neg h0, decide_eq_false h0]; rfl

/-- The least deadline. -/
def leastV (l : List S28) : Int := if rowB l = true then (match l with | [] => 0 | s :: r => Hm.minL s.f2 ((s :: r).map fun t => t.f2)) else 0
theorem bleast_loop (suf : List S28) : ∀ (pre : List S28) (k : Nat) (m : Int), (pre ++ suf).length ≤ 1000000000000000000 → suf.length < k →
    busy_Least.l0 k m (pre ++ suf) ((pre ++ suf).length : Int) (pre.length : Int) = some (Hm.minL m (suf.map fun t => t.f2)) := by
  induction suf with
  | nil =>
    intro pre k m _ hk
    obtain ⟨k, rfl⟩ := some_k hk
    simp only [busy_Least.l0, List.append_nil, List.map_nil, Hm.minL]
    rw [if_neg (by omega)]
  | cons s suf ih =>
    intro pre k m hl hk
    obtain ⟨k, rfl⟩ := some_k (show 0 < k by omega)
    simp only [List.length_append, List.length_cons] at hl hk
    have i1 : ((pre ++ s :: suf).length : Int) = (pre.length : Int) + ((suf.length : Int) + 1) := by simp
    have i2 := ih (pre ++ [s]) k (mn m s.f2) (by simp; omega) (by omega)
    simp only [List.append_assoc, List.cons_append, List.nil_append] at i2
    rw [show ((pre ++ [s]).length : Int) = (pre.length : Int) + 1 from by simp] at i2
    simp only [busy_Least.l0]
    rw [if_pos (by omega), if_pos (by omega), if_pos (by omega), rd_mid, w64 (by omega) (by omega)]
    exact i2
theorem Least_all (k : Nat) (l : List S28) (hk : 20 ≤ k) : busy_Least.f k l = some (leastV l) := by
  unfold busy_Least.f leastV
  rw [row_is]; simp only [Option.bind_some]
  obtain ⟨k, rfl⟩ := some_k (show 0 < k by omega)
  by_cases h : rowB l = true
  · rw [if_pos h, if_pos h]
    have hl := ((rowB_ok l).1 h).1
    simp only [busy_Least.j0]
    match l, hl with
    | [], _ => rfl
    | s :: r, hl =>
      have := bleast_loop (s :: r) [] k s.f2 (by simp only [List.nil_append]; omega) (by omega)
      rw [if_neg (by simp; try omega), if_pos (by simp; try omega)]
      simpa [rd_T28] using this
  · rw [if_neg h, if_neg h]; rfl
theorem rleast_loop (suf : List S28) : ∀ (pre : List S28) (k : Nat) (m : Int), (pre ++ suf).length ≤ 1000000000000000000 → suf.length < k →
    horariumref11_Least.l0 k (pre ++ suf) m (pre.length : Int) = some (Hm.minL m (suf.map fun t => t.f2)) := by
  induction suf with
  | nil =>
    intro pre k m _ hk
    obtain ⟨k, rfl⟩ := some_k hk
    simp only [horariumref11_Least.l0, List.append_nil, List.map_nil, Hm.minL]
    rw [if_neg (by omega)]
  | cons s suf ih =>
    intro pre k m hl hk
    obtain ⟨k, rfl⟩ := some_k (show 0 < k by omega)
    simp only [List.length_append, List.length_cons] at hl hk
    have i1 : ((pre ++ s :: suf).length : Int) = (pre.length : Int) + ((suf.length : Int) + 1) := by simp
    have i2 := fun m => ih (pre ++ [s]) k m (by simp; omega) (by omega)
    simp only [List.append_assoc, List.cons_append, List.nil_append] at i2
    rw [show ((pre ++ [s]).length : Int) = (pre.length : Int) + 1 from by simp] at i2
    simp only [horariumref11_Least.l0]
    rw [if_pos (by omega), if_pos (by omega), rd_mid, w64 (by omega) (by omega)]
    by_cases h : s.f2 < m
    · rw [if_pos h, i2]; simp only [List.map_cons, Hm.minL]; rw [if_pos h]
    · rw [if_neg h, i2]; simp only [List.map_cons, Hm.minL]; rw [if_neg h]
theorem rLeast_all (k : Nat) (l : List S28) (hl : l.length ≤ 1000000000000000000) (hk : l.length + 17 < k) : horariumref11_Least.f k l = some (leastV l) := by
  unfold horariumref11_Least.f leastV
  rw [rrow_all k l hl (by omega)]; simp only [Option.bind_some]
  obtain ⟨k, rfl⟩ := some_k (show 0 < k by omega)
  by_cases h : rowB l = true
  · rw [if_pos h, if_pos h]
    simp only [horariumref11_Least.j0]
    match l, hl, hk with
    | [], _, _ => rfl
    | s :: r, hl, hk =>
      have := rleast_loop (s :: r) [] k s.f2 (by simpa using hl) (by omega)
      rw [if_neg (by simp; try omega), if_pos (by simp; try omega)]
      simpa [rd_T28] using this
  · rw [if_neg h, if_neg h]; rfl

theorem and_7 (n : Int) : Go.bits .and .i64 n 7 = n % 8 := by
  have h127 : (BitVec.ofInt 64 7).toNat = 2 ^ 3 - 1 := by decide
  have key : (BitVec.ofInt 64 n &&& BitVec.ofInt 64 7).toNat = (n % ((2 ^ 64 : Nat) : Int)).toNat % 2 ^ 3 := by
    rw [BitVec.toNat_and, BitVec.toNat_ofInt, h127, Nat.and_two_pow_sub_one_eq_mod]
  show IntKind.i64.wrap ((BitVec.ofInt 64 n &&& BitVec.ofInt 64 7).toNat : Nat) = n % 8
  rw [key, IntKind.wrap_i64]
  omega

/-- Tasks by numbers. -/
def MadeP (r : List S28) : Prop := ∀ i (h : i < r.length), (r[i]).f0 = (i : Int) ∧ 1 ≤ (r[i]).f1 ∧ (r[i]).f1 ≤ (r[i]).f2 ∧ (r[i]).f2 ≤ (r[i]).f3 ∧ 2 ≤ (r[i]).f3 ∧ (r[i]).f3 ≤ 12 ∧ (r[i]).f3 ∣ 120 ∧ 1 ≤ (r[i]).f4 ∧ (r[i]).f4 ≤ 15
theorem mod_rng (a : Int) {m : Int} (h : 1 ≤ m) (hm : m ≤ 24) : 1 ≤ wrap64 (1 + Int.tmod (wrap64 (Int.tmod a m + m)) m) ∧ wrap64 (1 + Int.tmod (wrap64 (Int.tmod a m + m)) m) ≤ m := by
  have h1 : -m < Int.tmod a m ∧ Int.tmod a m < m := by
    rcases Int.le_total 0 a with ha | ha
    · have h2 := Int.tmod_lt_of_pos a (show 0 < m by omega); have h3 := Int.tmod_nonneg m ha; omega
    · have h2 := Int.tmod_lt_of_pos (-a) (show 0 < m by omega); have h3 := Int.tmod_nonneg m (show 0 ≤ -a by omega)
      rw [Int.neg_tmod] at h2 h3; omega
  rw [w64 (n := Int.tmod a m + m) (by omega) (by omega)]
  have h4 := Int.tmod_lt_of_pos (Int.tmod a m + m) (show 0 < m by omega); have h5 := Int.tmod_nonneg m (show 0 ≤ Int.tmod a m + m by omega)
  rw [w64 (by omega) (by omega)]; omega
theorem per_rng (j : Int) (h0 : 0 ≤ j) (h1 : j < 8) : 2 ≤ rd [2, 3, 4, 5, 6, 8, 10, 12] j ∧ rd [2, 3, 4, 5, 6, 8, 10, 12] j ≤ 12 ∧ rd [2, 3, 4, 5, 6, 8, 10, 12] j ∣ 120 := by
  have : j = 0 ∨ j = 1 ∨ j = 2 ∨ j = 3 ∨ j = 4 ∨ j = 5 ∨ j = 6 ∨ j = 7 := by omega
  rcases this with rfl | rfl | rfl | rfl | rfl | rfl | rfl | rfl <;> decide
theorem made_loop (l : List S31) (d : Nat) : ∀ (k i : Nat) (r : List S28), i + d = min l.length 8 → d < k → r.length = i → MadeP r →
    ∃ r', horariumlaw11_made.l0 k l r (i : Int) 2 3 4 5 6 8 10 12 = some r' ∧ r'.length = min l.length 8 ∧ MadeP r' := by
  induction d with
  | zero =>
    intro k i r hd hk hr hm
    obtain ⟨k, rfl⟩ := some_k hk
    refine ⟨r, ?_, by omega, hm⟩
    simp only [horariumlaw11_made.l0]
    by_cases h : (i : Int) < (l.length : Int)
    · rw [if_pos h, if_neg (by omega)]
    · rw [if_neg h]
  | succ d ih =>
    intro k i r hd hk hr hm
    obtain ⟨k, rfl⟩ := some_k (show 0 < k by omega)
    simp only [horariumlaw11_made.l0]
    rw [and_7, if_pos (by omega), if_pos (by omega), if_pos (by omega), if_pos (by omega), if_pos (by omega)]
    have hT := per_rng ((rd_T31 l (i : Int)).f2 % 8) (by omega) (by omega)
    generalize rd [2, 3, 4, 5, 6, 8, 10, 12] ((rd_T31 l (i : Int)).f2 % 8) = T at hT ⊢
    rw [if_neg (by omega)]
    have hD := mod_rng (rd_T31 l (i : Int)).f1 (m := T) (by omega) (by omega)
    generalize wrap64 (1 + Int.tmod (wrap64 (Int.tmod (rd_T31 l (i : Int)).f1 T + T)) T) = D at hD ⊢
    rw [if_neg (by omega), if_pos (by omega)]
    have hC := mod_rng (rd_T31 l (i : Int)).f0 (m := D) (by omega) (by omega)
    generalize wrap64 (1 + Int.tmod (wrap64 (Int.tmod (rd_T31 l (i : Int)).f0 D + D)) D) = C at hC ⊢
    rw [w64 (n := (i : Int) + 1) (by omega) (by omega)]
    have e : ((i : Int) + 1) = ((i + 1 : Nat) : Int) := by omega
    rw [e]
    refine ih k (i + 1) _ (by omega) (by omega) (by simp [hr]) ?_
    intro j hj
    by_cases h : j < r.length
    · rw [List.getElem_append_left h]; exact hm j h
    · have hj2 : j = r.length := by simp at hj; omega
      subst hj2
      rw [List.getElem_append_right (by omega)]
      simp only [Nat.sub_self, List.getElem_cons_zero]
      refine ⟨by omega, by omega, by omega, by omega, by omega, by omega, hT.2.2, ?_, ?_⟩ <;> omega
theorem made_is (l : List S31) (k : Nat) (hk : 8 < k) : ∃ r, horariumlaw11_made.f k l = some r ∧ r.length = min l.length 8 ∧ MadeP r := by
  unfold horariumlaw11_made.f
  exact made_loop l (min l.length 8) k 0 [] (by omega) (by omega) rfl (fun i h => by simp at h)
theorem MadeP.okL {r : List S28} (h : MadeP r) (hl : r.length ≤ 16) : okL r := by
  refine ⟨hl, fun s hs => ?_⟩
  obtain ⟨i, hi, rfl⟩ := List.getElem_of_mem hs
  have := h i hi
  unfold Hm.Tk.ok tk
  simp only
  omega
theorem rd_at {r : List S28} {i : Nat} (hi : i < r.length) : rd_T28 r (i : Int) = r[i] := by
  simp [rd_T28, hi]

theorem awake_is : ∀ k, 60 ≤ k → horariumlaw11_awake.f k = some true := by
  have h : horariumlaw11_awake.f 60 = some true := by decide +kernel
  intro k hk
  exact at_rounds (horariumlaw11_awake.mono) hk h

theorem tells_is (k : Nat) (l : List S28) (x : Int) (hl : l.length ≤ 1000000000000000000) (hk : l.length + 20 < k) : horariumlaw11_tells.f k l x = some true := by
  unfold horariumlaw11_tells.f
  rw [Work_all k l x (by omega), rWork_all k l x hl (by omega), Idle_all k l x (by omega), rIdle_all k l x hl (by omega), Least_all k l (by omega), rLeast_all k l hl (by omega)]
  simp
theorem few_is (l : List S28) : ∃ r, horariumlaw11_few.f l = some r ∧ r.length ≤ 3 := by
  unfold horariumlaw11_few.f
  by_cases h : (l.length : Int) > 3
  · rw [if_pos h, if_pos (by omega)]; exact ⟨_, rfl, by simp; omega⟩
  · rw [if_neg h]; exact ⟨_, rfl, by omega⟩
theorem BusyTells : horariumlaw11_BusyTells.Pure := by
  intro raw l x _ _ _ _ _
  obtain ⟨t, hr, hl, hm⟩ := made_is l 100 (by omega)
  obtain ⟨r, hr2, hl2⟩ := few_is raw
  refine ⟨100, ?_⟩
  unfold horariumlaw11_BusyTells.f
  rw [awake_is 100 (by omega), hr2, hr]
  simp only [Option.bind_some, if_true]
  rw [tells_is 100 r x (by omega) (by omega)]
  simp only [Option.bind_some, if_true]
  rw [tells_is 100 t x (by omega) (by omega)]
  simp only [Option.bind_some, if_true]
  rw [tells_is 100 t _ (by omega) (by omega)]
  rfl
end Go.Proofs.Ythiepacmdlgajaa.Pure
