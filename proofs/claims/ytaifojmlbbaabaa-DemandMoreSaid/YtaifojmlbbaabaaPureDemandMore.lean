/- DemandMore, the plain part: a task with more work, an earlier deadline or a shorter period asks for at least as much. -/
import Derived.Test.YtaifojmlbbaabaaPDemandMorex2
import Derived.Test.YtaifojmlbbaabaaMDem

namespace Go.Proofs.Ytaifojmlbbaabaa.Pure
open Go.RowKit Go.Proofs.Ytaifojmlbbaabaa.PDemandMore Go.Proofs.YtaifojmlbbaabaaW.PrintWords Go.Proofs.YtaifojmlbbaabaaW.PrintLast Go.Proofs.YtaifojmlbbaabaaW.PrintMore
def tk (s : S28) : Hm.Tk := ⟨s.f0, s.f1, s.f2, s.f3, s.f4⟩
theorem taskB_ok (s : S28) : taskB s = true ↔ (tk s).ok := by
  unfold taskB Hm.Tk.ok tk
  simp only [Bool.and_eq_true, decide_eq_true_eq]
/-- Tasks may be. -/
def okL (l : List S28) : Prop := l.length ≤ 16 ∧ ∀ s ∈ l, (tk s).ok
theorem row_yes {l : List S28} (h : okL l) : param_Row.f l = some true := by
  unfold param_Row.f
  have h1 : l.all taskB = true := by rw [List.all_eq_true]; intro s hs; exact (taskB_ok s).2 (h.2 s hs)
  rw [h1]; simp [h.1]
theorem row_no {l : List S28} (h : ¬ okL l) : param_Row.f l = some false := by
  unfold param_Row.f
  by_cases h1 : l.length ≤ 16
  · have h2 : l.all taskB = false := by
      rw [Bool.eq_false_iff]; intro h3; rw [List.all_eq_true] at h3
      exact h ⟨h1, fun s hs => (taskB_ok s).1 (h3 s hs)⟩
    rw [h2]; simp
  · simp [h1]
theorem okL_map {l : List S28} (h : okL l) : ∀ t ∈ l.map tk, t.ok := by
  intro t ht; obtain ⟨s, hs, rfl⟩ := List.mem_map.1 ht; exact h.2 s hs
theorem rd_mid (pre : List S28) (s : S28) (suf : List S28) : rd_T28 (pre ++ s :: suf) (pre.length : Int) = s := by
  simp [rd_T28]
theorem w64 {n : Int} (h1 : -9223372036854775808 ≤ n) (h2 : n ≤ 9223372036854775807) : wrap64 n = n := by unfold wrap64; omega
theorem some_k {k : Nat} (h : 0 < k) : ∃ m, k = m + 1 := ⟨k - 1, by omega⟩

theorem may_yes {l : List S28} {x : Int} (h : okL l) (h0 : 0 ≤ x) (h1 : x ≤ 1099511627776) : demand_may.f l x = some true := by
  unfold demand_may.f; rw [row_yes h]; simp only [Option.bind_some, if_true]; rw [if_pos h0]; simp [h1]
theorem may_no {l : List S28} {x : Int} (h : ¬ (okL l ∧ 0 ≤ x ∧ x ≤ 1099511627776)) : demand_may.f l x = some false := by
  unfold demand_may.f
  by_cases hl : okL l
  · rw [row_yes hl]; simp only [Option.bind_some, if_true]
    by_cases h0 : 0 ≤ x
    · rw [if_pos h0]; have : ¬ x ≤ 1099511627776 := fun h1 => h ⟨hl, h0, h1⟩
      simp [this]
    · rw [if_neg h0]
  · rw [row_no hl]; rfl
theorem many_is {s : S28} {x : Int} (h : (tk s).ok) (h0 : -1 ≤ x) (h1 : x ≤ 1099511627777) : demand_many.f s.f0 s.f1 s.f2 s.f3 s.f4 x = some (Hm.many (tk s) x) := by
  obtain ⟨_, _, h2, h3, h4, h5, _, _⟩ := h
  simp only [tk] at h2 h3 h4 h5
  unfold demand_many.f
  by_cases hd : x < s.f2
  · rw [if_pos hd, Hm.many_lo (show x < (tk s).d from hd)]
  · rw [if_neg hd, if_neg (by omega), Hm.many_hi (show (tk s).d ≤ x from Int.not_lt.1 hd)]
    show _ = some ((x - s.f2) / s.f3 + 1)
    have hq := Hm.quo_lo (x - s.f2) (show 0 < s.f3 by omega)
    have hn := Int.ediv_nonneg (show 0 ≤ x - s.f2 by omega) (show 0 ≤ s.f3 by omega)
    have hm : (x - s.f2) / s.f3 ≤ s.f3 * ((x - s.f2) / s.f3) := by
      have := Int.mul_le_mul_of_nonneg_right (show 1 ≤ s.f3 by omega) hn; omega
    rw [w64 (n := x - s.f2) (by omega) (by omega), Int.tdiv_eq_ediv_of_nonneg (by omega), w64 (n := (x - s.f2) / s.f3) (by omega) (by omega), w64 (by omega) (by omega)]
theorem of_loop {x : Int} (h0 : 0 ≤ x) (h1 : x ≤ 1099511627776) (suf : List S28) : ∀ (pre : List S28) (k : Nat) (acc : Int), okL (pre ++ suf) → suf.length < k → 0 ≤ acc → acc ≤ (pre.length : Int) * 2000000000000 →
    demand_Of.l0 k x acc (pre ++ suf) ((pre ++ suf).length : Int) (pre.length : Int) = some (acc + Hm.of (suf.map tk) x) := by
  induction suf with
  | nil =>
    intro pre k acc _ hk _ _
    obtain ⟨k, rfl⟩ := some_k hk
    simp only [demand_Of.l0, List.append_nil, List.map_nil, Hm.of]
    rw [if_neg (by omega)]; simp
  | cons s suf ih =>
    intro pre k acc hok hk ha hb
    obtain ⟨k, rfl⟩ := some_k (show 0 < k by omega)
    have hs : (tk s).ok := hok.2 s (by simp)
    have hw := Hm.work_le hs h0
    have hlen := hok.1
    simp only [List.length_append, List.length_cons] at hlen hk
    have hc : (tk s).c = s.f1 := rfl
    rw [hc] at hw
    have i1 : ((pre ++ s :: suf).length : Int) = (pre.length : Int) + ((suf.length : Int) + 1) := by simp
    have i2 := ih (pre ++ [s]) k (acc + s.f1 * Hm.many (tk s) x) (by simpa using hok) (by omega) (by omega) (by simp only [List.length_append, List.length_singleton]; omega)
    simp only [List.append_assoc, List.cons_append, List.nil_append] at i2
    have i3 : ((pre ++ [s]).length : Int) = (pre.length : Int) + 1 := by simp
    rw [i3] at i2
    simp only [demand_Of.l0]
    rw [if_pos (by omega), if_pos (by omega), if_pos (by omega), rd_mid, many_is hs (by omega) (by omega)]
    simp only [Option.bind_some]
    rw [w64 (n := s.f1 * Hm.many (tk s) x) (by omega) (by omega), w64 (n := acc + s.f1 * Hm.many (tk s) x) (by omega) (by omega), w64 (n := (pre.length : Int) + 1) (by omega) (by omega), i2]
    simp only [List.map_cons, Hm.of, hc]
    congr 1; omega
theorem Of_yes {l : List S28} {x : Int} (k : Nat) (h : okL l) (h0 : 0 ≤ x) (h1 : x ≤ 1099511627776) (hk : 17 ≤ k) : demand_Of.f k l x = some (Hm.of (l.map tk) x) := by
  unfold demand_Of.f
  rw [may_yes h h0 h1]; simp only [Option.bind_some, if_true]
  have := of_loop h0 h1 l [] k 0 (by simpa using h) (by have := h.1; omega) (by omega) (by simp)
  simpa using this
theorem Of_no {l : List S28} {x : Int} (k : Nat) (h : ¬ (okL l ∧ 0 ≤ x ∧ x ≤ 1099511627776)) : demand_Of.f k l x = some 0 := by
  unfold demand_Of.f
  rw [may_no h]; simp only [Option.bind_some]; rfl

theorem okL_one {s : S28} (h : (tk s).ok) : okL [s] := ⟨by simp, by simpa using h⟩
theorem One_yes {s : S28} {x : Int} (k : Nat) (h : (tk s).ok) (h0 : 0 ≤ x) (h1 : x ≤ 1099511627776) (hk : 17 ≤ k) : demand_One.f k s.f0 s.f1 s.f2 s.f3 s.f4 x = some (s.f1 * Hm.many (tk s) x) := by
  unfold demand_One.f
  have e := Of_yes (l := [s]) k (okL_one h) h0 h1 hk
  have e2 : Hm.of ([s].map tk) x = s.f1 * Hm.many (tk s) x := by simp [Hm.of, tk]
  rw [show (⟨s.f0, s.f1, s.f2, s.f3, s.f4⟩ : S28) = s from rfl, e, e2]; rfl

/-- Tasks by numbers. -/
def MadeP (r : List S28) : Prop := ∀ i (h : i < r.length), (r[i]).f0 = (i : Int) ∧ 1 ≤ (r[i]).f1 ∧ (r[i]).f1 ≤ (r[i]).f2 ∧ (r[i]).f2 ≤ (r[i]).f3 ∧ (r[i]).f3 ≤ 24 ∧ (r[i]).f4 = 1
theorem mod_rng (a : Int) {m : Int} (h : 1 ≤ m) (hm : m ≤ 24) : 1 ≤ wrap64 (1 + Int.tmod (wrap64 (Int.tmod a m + m)) m) ∧ wrap64 (1 + Int.tmod (wrap64 (Int.tmod a m + m)) m) ≤ m := by
  have h1 : -m < Int.tmod a m ∧ Int.tmod a m < m := by
    rcases Int.le_total 0 a with ha | ha
    · have h2 := Int.tmod_lt_of_pos a (show 0 < m by omega); have h3 := Int.tmod_nonneg m ha; omega
    · have h2 := Int.tmod_lt_of_pos (-a) (show 0 < m by omega); have h3 := Int.tmod_nonneg m (show 0 ≤ -a by omega)
      rw [Int.neg_tmod] at h2 h3; omega
  rw [w64 (n := Int.tmod a m + m) (by omega) (by omega)]
  have h4 := Int.tmod_lt_of_pos (Int.tmod a m + m) (show 0 < m by omega); have h5 := Int.tmod_nonneg m (show 0 ≤ Int.tmod a m + m by omega)
  rw [w64 (by omega) (by omega)]; omega
theorem made_loop (l : List S31) (d : Nat) : ∀ (k i : Nat) (r : List S28), i + d = min l.length 8 → d < k → r.length = i → MadeP r →
    ∃ r', horariumlaw10_made.l0 k l r (i : Int) = some r' ∧ r'.length = min l.length 8 ∧ MadeP r' := by
  induction d with
  | zero =>
    intro k i r hd hk hr hm
    obtain ⟨k, rfl⟩ := some_k hk
    refine ⟨r, ?_, by omega, hm⟩
    simp only [horariumlaw10_made.l0]
    by_cases h : (i : Int) < (l.length : Int)
    · rw [if_pos h, if_neg (by omega)]
    · rw [if_neg h]
  | succ d ih =>
    intro k i r hd hk hr hm
    obtain ⟨k, rfl⟩ := some_k (show 0 < k by omega)
    simp only [horariumlaw10_made.l0]
    rw [if_pos (by omega), if_pos (by omega), if_pos (by omega)]
    have hT := mod_rng (rd_T31 l (i : Int)).f2 (m := 24) (by omega) (by omega)
    generalize wrap64 (1 + Int.tmod (wrap64 (Int.tmod (rd_T31 l (i : Int)).f2 24 + 24)) 24) = T at hT ⊢
    rw [if_neg (by omega)]
    have hD := mod_rng (rd_T31 l (i : Int)).f1 (m := T) (by omega) (by omega)
    generalize wrap64 (1 + Int.tmod (wrap64 (Int.tmod (rd_T31 l (i : Int)).f1 T + T)) T) = D at hD ⊢
    rw [if_neg (by omega), if_pos (by omega)]
    have hC := mod_rng (rd_T31 l (i : Int)).f0 (m := D) (by omega) (by omega)
    generalize wrap64 (1 + Int.tmod (wrap64 (Int.tmod (rd_T31 l (i : Int)).f0 D + D)) D) = C at hC ⊢
    rw [w64 (n := (i : Int) + 1) (by omega) (by omega)]
    have e : ((i : Int) + 1) = ((i + 1 : Nat) : Int) := by omega
    rw [e]
    refine ih k (i + 1) _ (by omega) (by omega) (by simp [hr]) ?_
    intro j hj
    by_cases h : j < r.length
    · rw [List.getElem_append_left h]; exact hm j h
    · have hj2 : j = r.length := by simp at hj; omega
      subst hj2
      rw [List.getElem_append_right (by omega)]
      simp only [Nat.sub_self, List.getElem_cons_zero]
      exact ⟨by omega, by omega, by omega, by omega, by omega, trivial⟩
theorem made_is (l : List S31) (k : Nat) (hk : 8 < k) : ∃ r, horariumlaw10_made.f k l = some r ∧ r.length = min l.length 8 ∧ MadeP r := by
  unfold horariumlaw10_made.f
  exact made_loop l (min l.length 8) k 0 [] (by omega) (by omega) rfl (fun i h => by simp at h)
theorem MadeP.okL {r : List S28} (h : MadeP r) (hl : r.length ≤ 16) : okL r := by
  refine ⟨hl, fun s hs => ?_⟩
  obtain ⟨i, hi, rfl⟩ := List.getElem_of_mem hs
  have := h i hi
  unfold Hm.Tk.ok tk
  simp only
  omega
theorem rd_at {r : List S28} {i : Nat} (hi : i < r.length) : rd_T28 r (i : Int) = r[i] := by
  simp [rd_T28, hi]

theorem and_1048575 (n : Int) : Go.bits .and .i64 n 1048575 = n % 1048576 := by
  have h127 : (BitVec.ofInt 64 1048575).toNat = 2 ^ 20 - 1 := by decide
  have key : (BitVec.ofInt 64 n &&& BitVec.ofInt 64 1048575).toNat = (n % ((2 ^ 64 : Nat) : Int)).toNat % 2 ^ 20 := by
    rw [BitVec.toNat_and, BitVec.toNat_ofInt, h127, Nat.and_two_pow_sub_one_eq_mod]
  show IntKind.i64.wrap ((BitVec.ofInt 64 n &&& BitVec.ofInt 64 1048575).toNat : Nat) = n % 1048576
  rw [key, IntKind.wrap_i64]
  omega

theorem awake_is : ∀ k, 20 ≤ k → horariumlaw10_awake.f k = some true := by
  have h : horariumlaw10_awake.f 20 = some true := by decide +kernel
  intro k hk
  exact at_rounds (horariumlaw10_awake.mono) hk h

theorem more_end (k : Nat) (x : Int) (h0 : 0 ≤ x) (h1 : x < 1048576) (t s : S28) (ht : (tk t).ok) (hs : (tk s).ok) (h : t.f1 * Hm.many (tk t) x ≤ s.f1 * Hm.many (tk s) x) (hk : 18 ≤ k) :
    horariumlaw10_DemandMore.j0 k true x t.f0 t.f1 t.f2 t.f3 t.f4 s.f0 s.f1 s.f2 s.f3 s.f4 = some true := by
  obtain ⟨k, rfl⟩ := some_k (show 0 < k by omega)
  have hws := Hm.work_le hs h0
  have hwt := Hm.work_le ht h0
  have c1 : (tk t).c = t.f1 := rfl
  have c2 : (tk s).c = s.f1 := rfl
  rw [c1] at hwt; rw [c2] at hws
  simp only [horariumlaw10_DemandMore.j0, if_true]
  rw [One_yes k hs h0 (by omega) (by omega)]
  simp only [Option.bind_some]
  rw [One_yes k ht h0 (by omega) (by omega)]
  simp only [Option.bind_some]
  rw [if_pos h]
  rw [show ([⟨s.f0, s.f1, s.f2, s.f3, s.f4⟩, ⟨t.f0, t.f1, t.f2, t.f3, t.f4⟩] : List S28) = [s, t] from rfl]
  rw [Of_yes k (l := [s, t]) ⟨by simp, by intro z hz; simp at hz; rcases hz with rfl | rfl <;> assumption⟩ h0 (by omega) (by omega)]
  simp only [Option.bind_some]
  rw [w64 (by omega) (by omega)]
  simp [Hm.of, tk]
theorem DemandMore : horariumlaw10_DemandMore.Pure := by
  intro a b c how x0 _ _ _ _ _
  obtain ⟨r, hr, hl, hm⟩ := made_is [⟨a, b, c⟩] 100 (by omega)
  have hl1 : r.length = 1 := by simpa using hl
  obtain ⟨t, rfl⟩ : ∃ t, r = [t] := by
    match r, hl1 with
    | [t], _ => exact ⟨t, rfl⟩
  have h0 := hm 0 (by simp)
  simp only [List.getElem_cons_zero] at h0
  have ht : (tk t).ok := (hm.okL (by simp)).2 t (by simp)
  refine ⟨100, ?_⟩
  unfold horariumlaw10_DemandMore.f
  rw [awake_is 100 (by omega), hr, and_1048575]
  simp only [Option.bind_some]
  have hx0 : 0 ≤ x0 % 1048576 := by omega
  have hx1 : x0 % 1048576 < 1048576 := by omega
  generalize x0 % 1048576 = x at hx0 hx1 ⊢
  have e : rd_T28 [t] 0 = t := rfl
  rw [if_pos (by simp), e]
  have same := more_end 100 x hx0 hx1 t t ht ht (by omega) (by omega)
  have hmn := Hm.many_nonneg (t := tk t) (x := x) (by simp only [tk]; omega)
  split
  · split
    · have hs : (tk ⟨t.f0, t.f1 + 1, t.f2, t.f3, t.f4⟩).ok := by unfold Hm.Tk.ok tk; simp only; omega
      rw [w64 (by omega) (by omega)]
      refine more_end 100 x hx0 hx1 t ⟨t.f0, t.f1 + 1, t.f2, t.f3, t.f4⟩ ht hs ?_ (by omega)
      have hsame : Hm.many (tk ⟨t.f0, t.f1 + 1, t.f2, t.f3, t.f4⟩) x = Hm.many (tk t) x := rfl
      simp only [hsame]
      exact Int.mul_le_mul_of_nonneg_right (by omega) hmn
    · exact same
  · split
    · split
      · have hs : (tk ⟨t.f0, t.f1, t.f2 - 1, t.f3, t.f4⟩).ok := by unfold Hm.Tk.ok tk; simp only; omega
        rw [w64 (by omega) (by omega)]
        refine more_end 100 x hx0 hx1 t ⟨t.f0, t.f1, t.f2 - 1, t.f3, t.f4⟩ ht hs ?_ (by omega)
        refine Hm.mul_le (by omega) ?_
        unfold Hm.many tk
        simp only
        split
        · split
          · omega
          · have := Int.ediv_nonneg (show 0 ≤ x - (t.f2 - 1) by omega) (show 0 ≤ t.f3 by omega); omega
        · rw [if_neg (by omega)]
          have := Int.ediv_le_ediv (show 0 < t.f3 by omega) (show x - t.f2 ≤ x - (t.f2 - 1) by omega); omega
      · exact same
    · split
      · split
        · have hs : (tk ⟨t.f0, t.f1, t.f2, t.f3 - 1, t.f4⟩).ok := by unfold Hm.Tk.ok tk; simp only; omega
          rw [w64 (by omega) (by omega)]
          refine more_end 100 x hx0 hx1 t ⟨t.f0, t.f1, t.f2, t.f3 - 1, t.f4⟩ ht hs ?_ (by omega)
          refine Hm.mul_le (by omega) ?_
          unfold Hm.many tk
          simp only
          split
          · omega
          · have hq := Hm.quo_lo (x - t.f2) (t := t.f3) (by omega)
            have hn := Int.ediv_nonneg (show 0 ≤ x - t.f2 by omega) (show 0 ≤ t.f3 by omega)
            have h3 := Hm.quo_hi (x - t.f2) (t := t.f3 - 1) (by omega)
            have : (x - t.f2) / t.f3 ≤ (x - t.f2) / (t.f3 - 1) := by
              rw [Int.le_ediv_iff_mul_le (by omega)]
              have e1 : (x - t.f2) / t.f3 * (t.f3 - 1) = t.f3 * ((x - t.f2) / t.f3) - (x - t.f2) / t.f3 := by rw [Int.mul_sub, Int.mul_one, Int.mul_comm]
              omega
            omega
        · exact same
      · exact same
end Go.Proofs.Ytaifojmlbbaabaa.Pure
