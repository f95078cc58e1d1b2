/- BusySums, the plain part: work is the sum of each task's; a period later C more; at least what must be done by then. -/
import Derived.Test.YthiepacmdlgajaaPBusySumsx5
import Derived.Test.YthiepacmdlgajaaMRangeX
import Derived.Test.YthiepacmdlgajaaMDem
import Derived.Test.YthiepacmdlgajaaMWork

namespace Go.Proofs.Ythiepacmdlgajaa.Pure
open Go.RowKit Go.Proofs.Ythiepacmdlgajaa.PBusySums Go.Proofs.YthiepacmdlgajaaW.PrintWords Go.Proofs.YthiepacmdlgajaaW.PrintLast Go.Proofs.YthiepacmdlgajaaW.PrintMore
set_option linter.unusedVariables false
set_option linter.unusedSimpArgs false

theorem and_7 (n : Int) : Go.bits .and .i64 n 7 = n % 8 := by
  have h127 : (BitVec.ofInt 64 7).toNat = 2 ^ 3 - 1 := by decide
  have key : (BitVec.ofInt 64 n &&& BitVec.ofInt 64 7).toNat = (n % ((2 ^ 64 : Nat) : Int)).toNat % 2 ^ 3 := by
    rw [BitVec.toNat_and, BitVec.toNat_ofInt, h127, Nat.and_two_pow_sub_one_eq_mod]
  show IntKind.i64.wrap ((BitVec.ofInt 64 n &&& BitVec.ofInt 64 7).toNat : Nat) = n % 8
  rw [key, IntKind.wrap_i64]
  omega

/-- Tasks by numbers. -/
def MadeP (r : List S28) : Prop := ∀ i (h : i < r.length), (r[i]).f0 = (i : Int) ∧ 1 ≤ (r[i]).f1 ∧ (r[i]).f1 ≤ (r[i]).f2 ∧ (r[i]).f2 ≤ (r[i]).f3 ∧ 2 ≤ (r[i]).f3 ∧ (r[i]).f3 ≤ 12 ∧ (r[i]).f3 ∣ 120 ∧ 1 ≤ (r[i]).f4 ∧ (r[i]).f4 ≤ 15
theorem mod_rng (a : Int) {m : Int} (h : 1 ≤ m) (hm : m ≤ 24) : 1 ≤ wrap64 (1 + Int.tmod (wrap64 (Int.tmod a m + m)) m) ∧ wrap64 (1 + Int.tmod (wrap64 (Int.tmod a m + m)) m) ≤ m := by
  have h1 : -m < Int.tmod a m ∧ Int.tmod a m < m := by
    rcases Int.le_total 0 a with ha | ha
    · have h2 := Int.tmod_lt_of_pos a (show 0 < m by omega); have h3 := Int.tmod_nonneg m ha; omega
    · have h2 := Int.tmod_lt_of_pos (-a) (show 0 < m by omega); have h3 := Int.tmod_nonneg m (show 0 ≤ -a by omega)
      rw [Int.neg_tmod] at h2 h3; omega
  rw [w64 (n := Int.tmod a m + m) (by omega) (by omega)]
  have h4 := Int.tmod_lt_of_pos (Int.tmod a m + m) (show 0 < m by omega); have h5 := Int.tmod_nonneg m (show 0 ≤ Int.tmod a m + m by omega)
  rw [w64 (by omega) (by omega)]; omega
theorem per_rng (j : Int) (h0 : 0 ≤ j) (h1 : j < 8) : 2 ≤ rd [2, 3, 4, 5, 6, 8, 10, 12] j ∧ rd [2, 3, 4, 5, 6, 8, 10, 12] j ≤ 12 ∧ rd [2, 3, 4, 5, 6, 8, 10, 12] j ∣ 120 := by
  have : j = 0 ∨ j = 1 ∨ j = 2 ∨ j = 3 ∨ j = 4 ∨ j = 5 ∨ j = 6 ∨ j = 7 := by omega
  rcases this with rfl | rfl | rfl | rfl | rfl | rfl | rfl | rfl <;> decide
theorem made_loop (l : List S31) (d : Nat) : ∀ (k i : Nat) (r : List S28), i + d = min l.length 8 → d < k → r.length = i → MadeP r →
    ∃ r', horariumlaw11_made.l0 k l r (i : Int) 2 3 4 5 6 8 10 12 = some r' ∧ r'.length = min l.length 8 ∧ MadeP r' := by
  induction d with
  | zero =>
    intro k i r hd hk hr hm
    obtain ⟨k, rfl⟩ := some_k hk
    refine ⟨r, ?_, by omega, hm⟩
    simp only [horariumlaw11_made.l0]
    by_cases h : (i : Int) < (l.length : Int)
    · rw [if_pos h, if_neg (by omega)]
    · rw [if_neg h]
  | succ d ih =>
    intro k i r hd hk hr hm
    obtain ⟨k, rfl⟩ := some_k (show 0 < k by omega)
    simp only [horariumlaw11_made.l0]
    rw [and_7, if_pos (by omega), if_pos (by omega), if_pos (by omega), if_pos (by omega), if_pos (by omega)]
    have hT := per_rng ((rd_T31 l (i : Int)).f2 % 8) (by omega) (by omega)
    generalize rd [2, 3, 4, 5, 6, 8, 10, 12] ((rd_T31 l (i : Int)).f2 % 8) = T at hT ⊢
    rw [if_neg (by omega)]
    have hD := mod_rng (rd_T31 l (i : Int)).f1 (m := T) (by omega) (by omega)
    generalize wrap64 (1 + Int.tmod (wrap64 (Int.tmod (rd_T31 l (i : Int)).f1 T + T)) T) = D at hD ⊢
    rw [if_neg (by omega), if_pos (by omega)]
    have hC := mod_rng (rd_T31 l (i : Int)).f0 (m := D) (by omega) (by omega)
    generalize wrap64 (1 + Int.tmod (wrap64 (Int.tmod (rd_T31 l (i : Int)).f0 D + D)) D) = C at hC ⊢
    rw [w64 (n := (i : Int) + 1) (by omega) (by omega)]
    have e : ((i : Int) + 1) = ((i + 1 : Nat) : Int) := by omega
    rw [e]
    refine ih k (i + 1) _ (by omega) (by omega) (by simp [hr]) ?_
    intro j hj
    by_cases h : j < r.length
    · rw [List.getElem_append_left h]; exact hm j h
    · have hj2 : j = r.length := by simp at hj; omega
      subst hj2
      rw [List.getElem_append_right (by omega)]
      simp only [Nat.sub_self, List.getElem_cons_zero]
      refine ⟨by omega, by omega, by omega, by omega, by omega, by omega, hT.2.2, ?_, ?_⟩ <;> omega
theorem made_is (l : List S31) (k : Nat) (hk : 8 < k) : ∃ r, horariumlaw11_made.f k l = some r ∧ r.length = min l.length 8 ∧ MadeP r := by
  unfold horariumlaw11_made.f
  exact made_loop l (min l.length 8) k 0 [] (by omega) (by omega) rfl (fun i h => by simp at h)
theorem MadeP.okL {r : List S28} (h : MadeP r) (hl : r.length ≤ 16) : okL r := by
  refine ⟨hl, fun s hs => ?_⟩
  obtain ⟨i, hi, rfl⟩ := List.getElem_of_mem hs
  have := h i hi
  unfold Hm.Tk.ok tk
  simp only
  omega
theorem rd_at {r : List S28} {i : Nat} (hi : i < r.length) : rd_T28 r (i : Int) = r[i] := by
  simp [rd_T28, hi]

theorem and_1048575 (n : Int) : Go.bits .and .i64 n 1048575 = n % 1048576 := by
  have h127 : (BitVec.ofInt 64 1048575).toNat = 2 ^ 20 - 1 := by decide
  have key : (BitVec.ofInt 64 n &&& BitVec.ofInt 64 1048575).toNat = (n % ((2 ^ 64 : Nat) : Int)).toNat % 2 ^ 20 := by
    rw [BitVec.toNat_and, BitVec.toNat_ofInt, h127, Nat.and_two_pow_sub_one_eq_mod]
  show IntKind.i64.wrap ((BitVec.ofInt 64 n &&& BitVec.ofInt 64 1048575).toNat : Nat) = n % 1048576
  rw [key, IntKind.wrap_i64]
  omega

theorem awake_is : ∀ k, 60 ≤ k → horariumlaw11_awake.f k = some true := by
  have h : horariumlaw11_awake.f 60 = some true := by decide +kernel
  intro k hk
  exact at_rounds (horariumlaw11_awake.mono) hk h

theorem check_yes {s : S28} (h : (tk s).ok) : horariumref09_Check.f s.f0 s.f1 s.f2 s.f3 s.f4 = some true := by
  obtain ⟨h1, h2, h3, h4, h5, h6, h7, h8⟩ := h
  simp only [tk] at h1 h2 h3 h4 h5 h6 h7 h8
  unfold horariumref09_Check.f
  rw [if_pos (by omega), if_pos (by omega), if_pos (by omega), if_pos (by omega), if_pos (by omega), if_pos (by omega), if_pos (by omega), decide_eq_true h8]
theorem rOne_yes {s : S28} {x : Int} (h : (tk s).ok) (h0 : 0 ≤ x) (h1 : x ≤ 1099511627776) : horariumref10_One.f s.f0 s.f1 s.f2 s.f3 s.f4 x = some (s.f1 * Hm.many (tk s) x) := by
  unfold horariumref10_One.f horariumref10_time.f
  rw [check_yes h, if_pos (by omega), decide_eq_true (by omega)]
  simp only [Option.bind_some, if_true]
  have hw := Hm.work_le h h0
  obtain ⟨_, _, h2, h3, h4, h5, _, _⟩ := h
  simp only [tk] at h2 h3 h4 h5
  by_cases hx : x < s.f2
  · rw [if_pos hx, Hm.many_lo (show x < (tk s).d from hx), Int.mul_zero]
  · have hm : Hm.many (tk s) x = (x - s.f2) / s.f3 + 1 := Hm.many_hi (show (tk s).d ≤ x by show s.f2 ≤ x; omega)
    have hc : (tk s).c = s.f1 := rfl
    rw [hc, hm] at hw
    have hq := Int.ediv_nonneg (show 0 ≤ x - s.f2 by omega) (show 0 ≤ s.f3 by omega)
    have hq2 := Int.ediv_le_self s.f3 (show 0 ≤ x - s.f2 by omega)
    rw [if_neg hx, if_neg (by omega), w64 (n := x - s.f2) (by omega) (by omega), Int.tdiv_eq_ediv_of_nonneg (by omega), w64 (n := (x - s.f2) / s.f3) (by omega) (by omega), w64 (n := (x - s.f2) / s.f3 + 1) (by omega) (by omega), w64 (by omega) (by omega), hm]

theorem one_cut {t : List S28} {i : Nat} (hi : i < t.length) : (t.take ((((i + 1 : Nat) : Int)).toNat)).drop ((i : Int)).toNat = [t[i]] := by
  rw [Int.toNat_natCast, Int.toNat_natCast, List.take_succ_eq_append_getElem hi, List.drop_append_of_le_length (by simp; omega), List.drop_eq_nil_of_le (by simp; omega)]; simp
theorem okL_one {s : S28} (h : (tk s).ok) : okL [s] := ⟨by simp, by simpa using h⟩
theorem sums_loop (x : Int) (h0 : 0 ≤ x) (h1 : x < 1048576) (t : List S28) (hok : okL t) (d : Nat) : ∀ (k i : Nat), i + d = t.length → d + 20 < k →
    horariumlaw11_BusySums.l0 k true t x (Hm.work ((t.take i).map tk) x) (i : Int) = some true := by
  induction d with
  | zero =>
    intro k i hd hk
    obtain ⟨k, rfl⟩ := some_k (show 0 < k by omega)
    simp only [horariumlaw11_BusySums.l0, if_true]
    rw [if_neg (by omega), Work_all k t x (by omega), Work_all k t 0 (by omega), workV_yes hok h0 (by omega), workV_yes hok (by omega) (by omega), Hm.work_zero (okL_map hok), List.take_of_length_le (by omega)]
    simp
  | succ d ih =>
    intro k i hd hk
    obtain ⟨k, rfl⟩ := some_k (show 0 < k by omega)
    have hi : i < t.length := by omega
    have hs : (tk t[i]).ok := hok.2 _ (List.getElem_mem hi)
    have hlen := hok.1
    have hw := Hm.jobw_le hs h0
    obtain ⟨_, _, g2, g3, g4, g5, _, _⟩ := id hs
    have hc : (tk t[i]).c = t[i].f1 := rfl
    have htt : (tk t[i]).t = t[i].f3 := rfl
    have hlater := Hm.jobs_later (t := tk t[i]) (x := x) (by omega)
    have hml := Hm.mul_le (a := (tk t[i]).c) (by omega) (Hm.many_le_jobs (t := tk t[i]) (x := x) (by omega) (by omega) h0)
    rw [htt] at g4 g5
    rw [hc] at hw hml g2
    rw [htt] at hlater
    have hmul : t[i].f1 * (Hm.jobs (tk t[i]) x + 1) = t[i].f1 * Hm.jobs (tk t[i]) x + t[i].f1 := by rw [Int.mul_add, Int.mul_one]
    have hsum : Hm.work ((t.take (i + 1)).map tk) x = Hm.work ((t.take i).map tk) x + t[i].f1 * Hm.jobs (tk t[i]) x := by
      rw [List.take_succ_eq_append_getElem hi, List.map_append, Hm.work_append]; simp [Hm.work, hc]
    have hall : ∀ s ∈ (t.take (i + 1)).map tk, s.ok := fun s hs => by
      obtain ⟨y, hy, rfl⟩ := List.mem_map.1 hs; exact hok.2 y (List.mem_of_mem_take hy)
    have hle := Hm.work_bound (l := (t.take (i + 1)).map tk) (x := x) hall h0
    have hge := Hm.work_nonneg (l := (t.take (i + 1)).map tk) (x := x) hall h0
    have hll : ((t.take (i + 1)).map tk).length ≤ 16 := by simp; omega
    have hle2 : (((t.take (i + 1)).map tk).length : Int) * (x + 2147483648) ≤ 16 * (x + 2147483648) := Int.mul_le_mul_of_nonneg_right (by omega) (by omega)
    have w1 : ∀ y : Int, workV [t[i]] y = if 0 ≤ y ∧ y ≤ 1099511627776 then t[i].f1 * Hm.jobs (tk t[i]) y else 0 := fun y => by
      by_cases hy : 0 ≤ y ∧ y ≤ 1099511627776
      · rw [if_pos hy, workV_yes (okL_one hs) hy.1 hy.2]; simp [Hm.work, hc]
      · rw [if_neg hy]; unfold workV; rw [if_neg]; simp; intro _ h2; omega
    simp only [horariumlaw11_BusySums.l0]
    rw [if_pos (by omega), if_pos (by omega), w64 (n := (i : Int) + 1) (by omega) (by omega), if_pos (by omega), if_pos (by omega), show ((i : Int) + 1) = ((i + 1 : Nat) : Int) from by omega, one_cut hi, rd_at hi, Work_all k _ _ (by omega)]
    simp only [Option.bind_some]
    rw [w64 (n := x + t[i].f3) (by omega) (by omega), Work_all k _ _ (by omega)]
    simp only [Option.bind_some]
    have e1 := (w1 x).trans (if_pos ⟨h0, by omega⟩)
    have e2 := (w1 (x + t[i].f3)).trans (if_pos ⟨by omega, by omega⟩)
    rw [e1, e2, hlater, hmul, w64 (n := t[i].f1 * Hm.jobs (tk t[i]) x + t[i].f1) (by omega) (by omega), if_pos rfl, rOne_yes hs h0 (by omega)]
    simp only [Option.bind_some]
    rw [if_neg (by omega), ← hsum, w64 (n := Hm.work ((t.take (i + 1)).map tk) x) (by omega) (by omega)]
    exact ih k (i + 1) (by omega) (by omega)
theorem BusySums : horariumlaw11_BusySums.Pure := by
  intro l x _ _ _
  obtain ⟨r, hr, hl, hm⟩ := made_is l 100 (by omega)
  have hok := hm.okL (by omega)
  refine ⟨100, ?_⟩
  unfold horariumlaw11_BusySums.f
  rw [awake_is 100 (by omega), hr, and_1048575]
  simp only [Option.bind_some]
  have h := sums_loop (x % 1048576) (by omega) (by omega) r hok r.length 100 0 (by omega) (by omega)
  simpa [Hm.work] using h
end Go.Proofs.Ythiepacmdlgajaa.Pure
