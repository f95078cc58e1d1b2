/- DemandSteps, the plain part: work never falls with time, and rises at deadlines alone. -/
import Derived.Test.YtaifojmlbbaabaaPDemandStepsx3
import Derived.Test.YtaifojmlbbaabaaMDem
import Derived.Test.YtaifojmlbbaabaaMDead

namespace Go.Proofs.Ytaifojmlbbaabaa.Pure
open Go.RowKit Go.Proofs.Ytaifojmlbbaabaa.PDemandSteps Go.Proofs.YtaifojmlbbaabaaW.PrintWords Go.Proofs.YtaifojmlbbaabaaW.PrintLast Go.Proofs.YtaifojmlbbaabaaW.PrintMore
set_option linter.unusedVariables false
set_option linter.unusedSimpArgs false

def tk (s : S28) : Hm.Tk := ⟨s.f0, s.f1, s.f2, s.f3, s.f4⟩
theorem taskB_ok (s : S28) : taskB s = true ↔ (tk s).ok := by
  unfold taskB Hm.Tk.ok tk
  simp only [Bool.and_eq_true, decide_eq_true_eq]
/-- Tasks may be. -/
def okL (l : List S28) : Prop := l.length ≤ 16 ∧ ∀ s ∈ l, (tk s).ok
theorem row_yes {l : List S28} (h : okL l) : param_Row.f l = some true := by
  unfold param_Row.f
  have h1 : l.all taskB = true := by rw [List.all_eq_true]; intro s hs; exact (taskB_ok s).2 (h.2 s hs)
  rw [h1]; simp [h.1]
theorem row_no {l : List S28} (h : ¬ okL l) : param_Row.f l = some false := by
  unfold param_Row.f
  by_cases h1 : l.length ≤ 16
  · have h2 : l.all taskB = false := by
      rw [Bool.eq_false_iff]; intro h3; rw [List.all_eq_true] at h3
      exact h ⟨h1, fun s hs => (taskB_ok s).1 (h3 s hs)⟩
    rw [h2]; simp
  · simp [h1]
theorem okL_map {l : List S28} (h : okL l) : ∀ t ∈ l.map tk, t.ok := by
  intro t ht; obtain ⟨s, hs, rfl⟩ := List.mem_map.1 ht; exact h.2 s hs
theorem rd_mid (pre : List S28) (s : S28) (suf : List S28) : rd_T28 (pre ++ s :: suf) (pre.length : Int) = s := by
  simp [rd_T28]
theorem w64 {n : Int} (h1 : -9223372036854775808 ≤ n) (h2 : n ≤ 9223372036854775807) : wrap64 n = n := by unfold wrap64; omega
theorem some_k {k : Nat} (h : 0 < k) : ∃ m, k = m + 1 := ⟨k - 1, by omega⟩
theorem tmod_rng (a : Int) {m : Int} (h : 0 < m) : -m < Int.tmod a m ∧ Int.tmod a m < m := by
  rcases Int.le_total 0 a with ha | ha
  · have h2 := Int.tmod_lt_of_pos a h; have h3 := Int.tmod_nonneg m ha; omega
  · have h2 := Int.tmod_lt_of_pos (-a) h; have h3 := Int.tmod_nonneg m (show 0 ≤ -a by omega)
    rw [Int.neg_tmod] at h2 h3; omega
theorem tmod_pos {a m : Int} (h : 0 < m) (ha : 0 ≤ a) : 0 ≤ Int.tmod a m ∧ Int.tmod a m < m := ⟨Int.tmod_nonneg m ha, Int.tmod_lt_of_pos a h⟩

theorem may_yes {l : List S28} {x : Int} (h : okL l) (h0 : 0 ≤ x) (h1 : x ≤ 1099511627776) : demand_may.f l x = some true := by
  unfold demand_may.f; rw [row_yes h]; simp only [Option.bind_some, if_true]; rw [if_pos h0]; simp [h1]
theorem may_no {l : List S28} {x : Int} (h : ¬ (okL l ∧ 0 ≤ x ∧ x ≤ 1099511627776)) : demand_may.f l x = some false := by
  unfold demand_may.f
  by_cases hl : okL l
  · rw [row_yes hl]; simp only [Option.bind_some, if_true]
    by_cases h0 : 0 ≤ x
    · rw [if_pos h0]; have : ¬ x ≤ 1099511627776 := fun h1 => h ⟨hl, h0, h1⟩
      simp [this]
    · rw [if_neg h0]
  · rw [row_no hl]; rfl
theorem many_is {s : S28} {x : Int} (h : (tk s).ok) (h0 : -1 ≤ x) (h1 : x ≤ 1099511627777) : demand_many.f s.f0 s.f1 s.f2 s.f3 s.f4 x = some (Hm.many (tk s) x) := by
  obtain ⟨_, _, h2, h3, h4, h5, _, _⟩ := h
  simp only [tk] at h2 h3 h4 h5
  unfold demand_many.f
  by_cases hd : x < s.f2
  · rw [if_pos hd, Hm.many_lo (show x < (tk s).d from hd)]
  · rw [if_neg hd, if_neg (by omega), Hm.many_hi (show (tk s).d ≤ x from Int.not_lt.1 hd)]
    show _ = some ((x - s.f2) / s.f3 + 1)
    have hq := Hm.quo_lo (x - s.f2) (show 0 < s.f3 by omega)
    have hn := Int.ediv_nonneg (show 0 ≤ x - s.f2 by omega) (show 0 ≤ s.f3 by omega)
    have hm : (x - s.f2) / s.f3 ≤ s.f3 * ((x - s.f2) / s.f3) := by
      have := Int.mul_le_mul_of_nonneg_right (show 1 ≤ s.f3 by omega) hn; omega
    rw [w64 (n := x - s.f2) (by omega) (by omega), Int.tdiv_eq_ediv_of_nonneg (by omega), w64 (n := (x - s.f2) / s.f3) (by omega) (by omega), w64 (by omega) (by omega)]
theorem of_loop {x : Int} (h0 : 0 ≤ x) (h1 : x ≤ 1099511627776) (suf : List S28) : ∀ (pre : List S28) (k : Nat) (acc : Int), okL (pre ++ suf) → suf.length < k → 0 ≤ acc → acc ≤ (pre.length : Int) * 2000000000000 →
    demand_Of.l0 k x acc (pre ++ suf) ((pre ++ suf).length : Int) (pre.length : Int) = some (acc + Hm.of (suf.map tk) x) := by
  induction suf with
  | nil =>
    intro pre k acc _ hk _ _
    obtain ⟨k, rfl⟩ := some_k hk
    simp only [demand_Of.l0, List.append_nil, List.map_nil, Hm.of]
    rw [if_neg (by omega)]; simp
  | cons s suf ih =>
    intro pre k acc hok hk ha hb
    obtain ⟨k, rfl⟩ := some_k (show 0 < k by omega)
    have hs : (tk s).ok := hok.2 s (by simp)
    have hw := Hm.work_le hs h0
    have hlen := hok.1
    simp only [List.length_append, List.length_cons] at hlen hk
    have hc : (tk s).c = s.f1 := rfl
    rw [hc] at hw
    have i1 : ((pre ++ s :: suf).length : Int) = (pre.length : Int) + ((suf.length : Int) + 1) := by simp
    have i2 := ih (pre ++ [s]) k (acc + s.f1 * Hm.many (tk s) x) (by simpa using hok) (by omega) (by omega) (by simp only [List.length_append, List.length_singleton]; omega)
    simp only [List.append_assoc, List.cons_append, List.nil_append] at i2
    have i3 : ((pre ++ [s]).length : Int) = (pre.length : Int) + 1 := by simp
    rw [i3] at i2
    simp only [demand_Of.l0]
    rw [if_pos (by omega), if_pos (by omega), if_pos (by omega), rd_mid, many_is hs (by omega) (by omega)]
    simp only [Option.bind_some]
    rw [w64 (n := s.f1 * Hm.many (tk s) x) (by omega) (by omega), w64 (n := acc + s.f1 * Hm.many (tk s) x) (by omega) (by omega), w64 (n := (pre.length : Int) + 1) (by omega) (by omega), i2]
    simp only [List.map_cons, Hm.of, hc]
    congr 1; omega
theorem Of_yes {l : List S28} {x : Int} (k : Nat) (h : okL l) (h0 : 0 ≤ x) (h1 : x ≤ 1099511627776) (hk : 17 ≤ k) : demand_Of.f k l x = some (Hm.of (l.map tk) x) := by
  unfold demand_Of.f
  rw [may_yes h h0 h1]; simp only [Option.bind_some, if_true]
  have := of_loop h0 h1 l [] k 0 (by simpa using h) (by have := h.1; omega) (by omega) (by simp)
  simpa using this
theorem Of_no {l : List S28} {x : Int} (k : Nat) (h : ¬ (okL l ∧ 0 ≤ x ∧ x ≤ 1099511627776)) : demand_Of.f k l x = some 0 := by
  unfold demand_Of.f
  rw [may_no h]; simp only [Option.bind_some]; rfl

theorem rd_midI (pre : List Int) (s : Int) (suf : List Int) : rd (pre ++ s :: suf) (pre.length : Int) = s := by
  simp [rd]
theorem least_loop (suf : List Int) : ∀ (pre : List Int) (k : Nat) (m : Int), (pre ++ suf).length ≤ 1000 → suf.length < k →
    demand_least.l0 k m (pre ++ suf) ((pre ++ suf).length : Int) (pre.length : Int) = some (Hm.minL m suf) := by
  induction suf with
  | nil =>
    intro pre k m _ hk
    obtain ⟨k, rfl⟩ := some_k hk
    simp only [demand_least.l0, List.append_nil, Hm.minL]
    rw [if_neg (by omega)]
  | cons s suf ih =>
    intro pre k m hl hk
    obtain ⟨k, rfl⟩ := some_k (show 0 < k by omega)
    simp only [List.length_append, List.length_cons] at hl hk
    have i1 : ((pre ++ s :: suf).length : Int) = (pre.length : Int) + ((suf.length : Int) + 1) := by simp
    have i2 := ih (pre ++ [s]) k (mn m s) (by simp; omega) (by omega)
    simp only [List.append_assoc, List.cons_append, List.nil_append] at i2
    rw [show ((pre ++ [s]).length : Int) = (pre.length : Int) + 1 from by simp] at i2
    simp only [demand_least.l0]
    rw [if_pos (by omega), if_pos (by omega), if_pos (by omega), rd_midI, w64 (by omega) (by omega)]
    exact i2
theorem least_is (x : Int) (l : List Int) (k : Nat) (hl : l.length ≤ 900) (hk : 1000 ≤ k) : demand_least.f k (x :: l) = some (Hm.minL x (x :: l)) := by
  unfold demand_least.f
  rw [if_pos (by simp only [List.length_cons]; omega)]
  have := least_loop (x :: l) [] k x (by simp only [List.nil_append, List.length_cons]; omega) (by simp only [List.length_cons]; omega)
  simpa [rd] using this
theorem next_loop {x : Int} (h0 : 0 ≤ x) (h1 : x ≤ 1099511627776) (suf : List S28) : ∀ (pre : List S28) (k : Nat), okL (pre ++ suf) → (pre ++ suf) ≠ [] → suf.length + 1001 ≤ k →
    demand_Next.l0 k x (pre.map fun s => Hm.due (tk s) x) (pre ++ suf) ((pre ++ suf).length : Int) (pre.length : Int) =
      some (if Hm.next ((pre ++ suf).map tk) x > 1099511627776 then (0, false) else (Hm.next ((pre ++ suf).map tk) x, true)) := by
  induction suf with
  | nil =>
    intro pre k hok hne hk
    obtain ⟨k, rfl⟩ := some_k (show 0 < k by omega)
    simp only [List.append_nil] at hok hne ⊢
    simp only [demand_Next.l0]
    rw [if_neg (by omega)]
    match pre, hok, hne with
    | s :: r, hok, _ =>
      have hlen := hok.1
      simp only [List.length_cons] at hlen
      rw [List.map_cons, least_is _ _ k (by simp; omega) (by simp at hk; omega)]
      simp only [Option.bind_some]
      have e : Hm.minL (Hm.due (tk s) x) (Hm.due (tk s) x :: r.map fun s => Hm.due (tk s) x) = Hm.next ((s :: r).map tk) x := by
        simp [Hm.next, List.map_map, Function.comp_def]
      rw [e]
      split <;> rfl
  | cons s suf ih =>
    intro pre k hok _ hk
    obtain ⟨k, rfl⟩ := some_k (show 0 < k by omega)
    have hs : (tk s).ok := hok.2 s (by simp)
    have hlen := hok.1
    simp only [List.length_append, List.length_cons] at hlen hk
    have hw := Hm.due_le hs h0
    have hg := Hm.due_gt (t := tk s) (x := x) (by obtain ⟨_, _, _, _, _, _, _, _⟩ := hs; omega)
    have hmn := Hm.many_nonneg (t := tk s) (x := x) (by obtain ⟨_, _, _, _, _, _, _, _⟩ := hs; omega)
    obtain ⟨_, _, h2, h3, h4, h5, _, _⟩ := id hs
    have hd : (tk s).d = s.f2 := rfl
    have ht : (tk s).t = s.f3 := rfl
    have hdue : Hm.due (tk s) x = s.f2 + s.f3 * Hm.many (tk s) x := rfl
    rw [hdue] at hw hg
    rw [hd] at h3 h4; rw [ht] at h4 h5 hw
    have hmm := Int.mul_nonneg (show 0 ≤ s.f3 by omega) hmn
    have i1 : ((pre ++ s :: suf).length : Int) = (pre.length : Int) + ((suf.length : Int) + 1) := by simp
    have i2 := ih (pre ++ [s]) k (by simpa using hok) (by simp) (by omega)
    simp only [List.append_assoc, List.cons_append, List.nil_append, List.map_append, List.map_cons, List.map_nil] at i2
    rw [show ((pre ++ [s]).length : Int) = (pre.length : Int) + 1 from by simp, hdue] at i2
    simp only [demand_Next.l0]
    rw [if_pos (by omega), if_pos (by omega), if_pos (by omega), rd_mid, many_is hs (by omega) (by omega)]
    simp only [Option.bind_some]
    rw [if_pos (by simp; omega), w64 (n := s.f3 * Hm.many (tk s) x) (by omega) (by omega), w64 (n := s.f2 + s.f3 * Hm.many (tk s) x) (by omega) (by omega), w64 (n := (pre.length : Int) + 1) (by omega) (by omega), i2]
    simp
theorem Next_is {l : List S28} {x : Int} (k : Nat) (h : okL l) (hne : l ≠ []) (h0 : 0 ≤ x) (h1 : x ≤ 1099511627776) (hk : 1100 ≤ k) :
    demand_Next.f k l x = some (if Hm.next (l.map tk) x > 1099511627776 then (0, false) else (Hm.next (l.map tk) x, true)) := by
  unfold demand_Next.f
  rw [may_yes h h0 h1]; simp only [Option.bind_some, if_true]
  obtain ⟨k, rfl⟩ := some_k (show 0 < k by omega)
  simp only [demand_Next.j0]
  have hl := h.1
  have hz : ((l.length : Int) == 0) = false := by
    rw [beq_eq_false_iff_ne]; intro e; exact hne (List.length_eq_zero_iff.1 (by omega))
  rw [hz]; simp only [Bool.false_eq_true, if_false]
  have := next_loop h0 h1 l [] k (by simpa using h) (by simpa using hne) (by omega)
  simpa using this
theorem Next_nil {x : Int} (k : Nat) (hk : 1 ≤ k) : demand_Next.f k [] x = some (0, false) := by
  unfold demand_Next.f
  obtain ⟨k, rfl⟩ := some_k (show 0 < k by omega)
  by_cases h : 0 ≤ x ∧ x ≤ 1099511627776
  · rw [may_yes (l := []) ⟨by simp, by simp⟩ h.1 h.2]; simp [demand_Next.j0]
  · rw [may_no (l := []) (fun hh => h hh.2)]; simp [demand_Next.j0]
theorem Next_no {l : List S28} {x : Int} (k : Nat) (h : ¬ (okL l ∧ 0 ≤ x ∧ x ≤ 1099511627776)) (hk : 1 ≤ k) : demand_Next.f k l x = some (0, false) := by
  unfold demand_Next.f
  obtain ⟨k, rfl⟩ := some_k (show 0 < k by omega)
  rw [may_no h]; simp [demand_Next.j0]

theorem before_loop {x : Int} (h0 : 0 ≤ x) (h1 : x ≤ 1099511627776) (suf : List S28) : ∀ (pre : List S28) (k : Nat) (m : Int), okL (pre ++ suf) → suf.length < k → 0 ≤ m →
    demand_Before.l0 k x m (pre ++ suf) ((pre ++ suf).length : Int) (pre.length : Int) = some (Hm.bef m (suf.map tk) x, decide (Hm.bef m (suf.map tk) x > 0)) := by
  induction suf with
  | nil =>
    intro pre k m _ hk _
    obtain ⟨k, rfl⟩ := some_k hk
    simp only [demand_Before.l0, List.append_nil, List.map_nil, Hm.bef]
    rw [if_neg (by omega)]
  | cons s suf ih =>
    intro pre k m hok hk hm
    obtain ⟨k, rfl⟩ := some_k (show 0 < k by omega)
    have hs : (tk s).ok := hok.2 s (by simp)
    have hlen := hok.1
    simp only [List.length_append, List.length_cons] at hlen hk
    obtain ⟨_, _, h2, h3, h4, h5, _, _⟩ := id hs
    have hd : (tk s).d = s.f2 := rfl
    have ht : (tk s).t = s.f3 := rfl
    have i1 : ((pre ++ s :: suf).length : Int) = (pre.length : Int) + ((suf.length : Int) + 1) := by simp
    have hlast : Hm.last (tk s) x = s.f2 + s.f3 * (Hm.many (tk s) (x - 1) - 1) := rfl
    simp only [demand_Before.l0]
    rw [if_pos (by omega), if_pos (by omega), if_pos (by omega), rd_mid, w64 (n := x - 1) (by omega) (by omega), many_is hs (by omega) (by omega)]
    simp only [Option.bind_some]
    simp only [List.map_cons, Hm.bef]
    by_cases hp : 0 < Hm.many (tk s) (x - 1)
    · have hl := Hm.last_lt (t := tk s) (x := x) (by omega) hp
      rw [hlast, hd] at hl
      rw [hd] at h3 h4; rw [ht] at h4 h5
      have hmm := Int.mul_nonneg (show 0 ≤ s.f3 by omega) (show 0 ≤ Hm.many (tk s) (x - 1) - 1 by omega)
      have hm3 : Hm.many (tk s) (x - 1) - 1 ≤ s.f3 * (Hm.many (tk s) (x - 1) - 1) := by
        have := Int.mul_le_mul_of_nonneg_right (show 1 ≤ s.f3 by omega) (show 0 ≤ Hm.many (tk s) (x - 1) - 1 by omega); omega
      rw [if_pos hp, if_pos hp, w64 (n := Hm.many (tk s) (x - 1) - 1) (by omega) (by omega), w64 (n := s.f3 * (Hm.many (tk s) (x - 1) - 1)) (by omega) (by omega), w64 (n := s.f2 + s.f3 * (Hm.many (tk s) (x - 1) - 1)) (by omega) (by omega), w64 (n := (pre.length : Int) + 1) (by omega) (by omega)]
      have i2 := ih (pre ++ [s]) k (mx m (s.f2 + s.f3 * (Hm.many (tk s) (x - 1) - 1))) (by simpa using hok) (by omega) (by unfold mx; split <;> omega)
      simp only [List.append_assoc, List.cons_append, List.nil_append] at i2
      rw [show ((pre ++ [s]).length : Int) = (pre.length : Int) + 1 from by simp] at i2
      rw [i2, hlast]
      rfl
    · rw [if_neg hp, if_neg hp, w64 (n := (pre.length : Int) + 1) (by omega) (by omega)]
      have i2 := ih (pre ++ [s]) k m (by simpa using hok) (by omega) hm
      simp only [List.append_assoc, List.cons_append, List.nil_append] at i2
      rw [show ((pre ++ [s]).length : Int) = (pre.length : Int) + 1 from by simp] at i2
      exact i2
theorem Before_is {l : List S28} {x : Int} (k : Nat) (h : okL l) (h0 : 0 ≤ x) (h1 : x ≤ 1099511627776) (hk : 17 ≤ k) :
    demand_Before.f k l x = some (Hm.before (l.map tk) x, decide (Hm.before (l.map tk) x > 0)) := by
  unfold demand_Before.f
  rw [may_yes h h0 h1]; simp only [Option.bind_some, if_true]
  have hl := h.1
  have := before_loop h0 h1 l [] k 0 (by simpa using h) (by omega) (by omega)
  simpa [Hm.before] using this
theorem Before_no {l : List S28} {x : Int} (k : Nat) (h : ¬ (okL l ∧ 0 ≤ x ∧ x ≤ 1099511627776)) : demand_Before.f k l x = some (0, false) := by
  unfold demand_Before.f
  rw [may_no h]; rfl

/-- Tasks by numbers. -/
def MadeP (r : List S28) : Prop := ∀ i (h : i < r.length), (r[i]).f0 = (i : Int) ∧ 1 ≤ (r[i]).f1 ∧ (r[i]).f1 ≤ (r[i]).f2 ∧ (r[i]).f2 ≤ (r[i]).f3 ∧ (r[i]).f3 ≤ 24 ∧ (r[i]).f4 = 1
theorem mod_rng (a : Int) {m : Int} (h : 1 ≤ m) (hm : m ≤ 24) : 1 ≤ wrap64 (1 + Int.tmod (wrap64 (Int.tmod a m + m)) m) ∧ wrap64 (1 + Int.tmod (wrap64 (Int.tmod a m + m)) m) ≤ m := by
  have h1 : -m < Int.tmod a m ∧ Int.tmod a m < m := by
    rcases Int.le_total 0 a with ha | ha
    · have h2 := Int.tmod_lt_of_pos a (show 0 < m by omega); have h3 := Int.tmod_nonneg m ha; omega
    · have h2 := Int.tmod_lt_of_pos (-a) (show 0 < m by omega); have h3 := Int.tmod_nonneg m (show 0 ≤ -a by omega)
      rw [Int.neg_tmod] at h2 h3; omega
  rw [w64 (n := Int.tmod a m + m) (by omega) (by omega)]
  have h4 := Int.tmod_lt_of_pos (Int.tmod a m + m) (show 0 < m by omega); have h5 := Int.tmod_nonneg m (show 0 ≤ Int.tmod a m + m by omega)
  rw [w64 (by omega) (by omega)]; omega
theorem made_loop (l : List S31) (d : Nat) : ∀ (k i : Nat) (r : List S28), i + d = min l.length 8 → d < k → r.length = i → MadeP r →
    ∃ r', horariumlaw10_made.l0 k l r (i : Int) = some r' ∧ r'.length = min l.length 8 ∧ MadeP r' := by
  induction d with
  | zero =>
    intro k i r hd hk hr hm
    obtain ⟨k, rfl⟩ := some_k hk
    refine ⟨r, ?_, by omega, hm⟩
    simp only [horariumlaw10_made.l0]
    by_cases h : (i : Int) < (l.length : Int)
    · rw [if_pos h, if_neg (by omega)]
    · rw [if_neg h]
  | succ d ih =>
    intro k i r hd hk hr hm
    obtain ⟨k, rfl⟩ := some_k (show 0 < k by omega)
    simp only [horariumlaw10_made.l0]
    rw [if_pos (by omega), if_pos (by omega), if_pos (by omega)]
    have hT := mod_rng (rd_T31 l (i : Int)).f2 (m := 24) (by omega) (by omega)
    generalize wrap64 (1 + Int.tmod (wrap64 (Int.tmod (rd_T31 l (i : Int)).f2 24 + 24)) 24) = T at hT ⊢
    rw [if_neg (by omega)]
    have hD := mod_rng (rd_T31 l (i : Int)).f1 (m := T) (by omega) (by omega)
    generalize wrap64 (1 + Int.tmod (wrap64 (Int.tmod (rd_T31 l (i : Int)).f1 T + T)) T) = D at hD ⊢
    rw [if_neg (by omega), if_pos (by omega)]
    have hC := mod_rng (rd_T31 l (i : Int)).f0 (m := D) (by omega) (by omega)
    generalize wrap64 (1 + Int.tmod (wrap64 (Int.tmod (rd_T31 l (i : Int)).f0 D + D)) D) = C at hC ⊢
    rw [w64 (n := (i : Int) + 1) (by omega) (by omega)]
    have e : ((i : Int) + 1) = ((i + 1 : Nat) : Int) := by omega
    rw [e]
    refine ih k (i + 1) _ (by omega) (by omega) (by simp [hr]) ?_
    intro j hj
    by_cases h : j < r.length
    · rw [List.getElem_append_left h]; exact hm j h
    · have hj2 : j = r.length := by simp at hj; omega
      subst hj2
      rw [List.getElem_append_right (by omega)]
      simp only [Nat.sub_self, List.getElem_cons_zero]
      exact ⟨by omega, by omega, by omega, by omega, by omega, trivial⟩
theorem made_is (l : List S31) (k : Nat) (hk : 8 < k) : ∃ r, horariumlaw10_made.f k l = some r ∧ r.length = min l.length 8 ∧ MadeP r := by
  unfold horariumlaw10_made.f
  exact made_loop l (min l.length 8) k 0 [] (by omega) (by omega) rfl (fun i h => by simp at h)
theorem MadeP.okL {r : List S28} (h : MadeP r) (hl : r.length ≤ 16) : okL r := by
  refine ⟨hl, fun s hs => ?_⟩
  obtain ⟨i, hi, rfl⟩ := List.getElem_of_mem hs
  have := h i hi
  unfold Hm.Tk.ok tk
  simp only
  omega
theorem rd_at {r : List S28} {i : Nat} (hi : i < r.length) : rd_T28 r (i : Int) = r[i] := by
  simp [rd_T28, hi]

theorem awake_is : ∀ k, 20 ≤ k → horariumlaw10_awake.f k = some true := by
  have h : horariumlaw10_awake.f 20 = some true := by decide +kernel
  intro k hk
  exact at_rounds (horariumlaw10_awake.mono) hk h

theorem steps_rise {l : List Hm.Tk} (hok : ∀ t ∈ l, t.ok) {k : Int} (hk : 1 ≤ k) : Hm.of l (k - 1) < Hm.of l k ↔ (l ≠ [] ∧ Hm.next l (k - 1) = k) := by
  rw [Hm.of_lt_iff hok (by omega)]
  constructor
  · rintro ⟨t, ht, hlt⟩
    have hne : l ≠ [] := fun e => by rw [e] at ht; cases ht
    obtain ⟨_, _, h2, h3, h4, h5, _, _⟩ := hok t ht
    have hn := Hm.many_nonneg (t := t) (x := k - 1) (by omega)
    have h6 : ¬ k < t.d + t.t * Hm.many t (k - 1) := fun h => by have := (Hm.many_le_iff (t := t) (x := k) (by omega) hn).2 h; omega
    have h7 := Hm.next_le ht (k - 1)
    have h8 := Hm.next_gt hne hok (k - 1)
    unfold Hm.due at h7
    exact ⟨hne, by omega⟩
  · rintro ⟨hne, e⟩
    obtain ⟨t, ht, hd⟩ := Hm.next_mem hne (k - 1)
    obtain ⟨_, _, h2, h3, h4, h5, _, _⟩ := hok t ht
    have hn := Hm.many_nonneg (t := t) (x := k - 1) (by omega)
    refine ⟨t, ht, ?_⟩
    unfold Hm.due at hd
    by_cases hc : Hm.many t k ≤ Hm.many t (k - 1)
    · have := (Hm.many_le_iff (t := t) (x := k) (by omega) hn).1 hc; omega
    · omega
theorem steps_back {l : List Hm.Tk} (hok : ∀ t ∈ l, t.ok) {k : Int} (hk : 1 ≤ k) : (l ≠ [] ∧ Hm.next l (k - 1) = k) ↔ (0 < Hm.before l (k + 1) ∧ Hm.before l (k + 1) = k) := by
  rw [← steps_rise hok hk, Hm.of_lt_iff hok (by omega)]
  have ek : k + 1 - 1 = k := by omega
  constructor
  · rintro ⟨t, ht, hlt⟩
    obtain ⟨_, _, h2, h3, h4, h5, _, _⟩ := hok t ht
    have hn := Hm.many_nonneg (t := t) (x := k - 1) (by omega)
    have h6 : 0 < Hm.many t (k + 1 - 1) := by rw [ek]; omega
    have h7 := Hm.bef_ge_mem (m := 0) ht h6
    have h8 : ¬ k - 1 ≥ Hm.last t (k + 1) := fun h => by
      have h9 : ¬ Hm.many t (k - 1) ≤ Hm.many t k - 1 := fun h10 => by
        have := (Hm.many_le_iff (t := t) (x := k - 1) (by omega) (by omega)).1 h10
        unfold Hm.last at h; rw [ek] at h; omega
      omega
    have h9 : Hm.before l (k + 1) ≤ k := by
      rcases Hm.bef_mem 0 l (k + 1) with h | ⟨s, hs, h10, h11⟩
      · unfold Hm.before; omega
      · obtain ⟨_, _, g2, g3, g4, g5, _, _⟩ := hok s hs
        have := Hm.last_lt (t := s) (x := k + 1) (by omega) h10
        unfold Hm.before; omega
    unfold Hm.before at h9 ⊢
    omega
  · rintro ⟨h0, e⟩
    rcases Hm.bef_mem 0 l (k + 1) with h | ⟨t, ht, h10, h11⟩
    · unfold Hm.before at h0; omega
    · obtain ⟨_, _, h2, h3, h4, h5, _, _⟩ := hok t ht
      refine ⟨t, ht, ?_⟩
      have h12 : Hm.last t (k + 1) = k := by rw [← h11]; exact e
      unfold Hm.last at h12
      rw [ek] at h10 h12
      have := (Hm.many_le_iff (t := t) (x := k - 1) (n := Hm.many t k - 1) (by omega) (by omega)).2 (by omega)
      omega
theorem DemandSteps : horariumlaw10_DemandSteps.Pure := by
  intro l x _ _ _
  obtain ⟨r, hr, hl, hm⟩ := made_is l 2000 (by omega)
  have hok := hm.okL (by omega)
  refine ⟨2000, ?_⟩
  generalize hK : (2000 : Nat) = K at hr ⊢
  unfold horariumlaw10_DemandSteps.f
  rw [awake_is K (by omega), hr]
  simp only [Option.bind_some]
  have hk : 1 ≤ wrap64 (1 + Int.tmod (wrap64 (Int.tmod x 2000 + 2000)) 2000) ∧ wrap64 (1 + Int.tmod (wrap64 (Int.tmod x 2000 + 2000)) 2000) ≤ 2000 := by
    have h1 := tmod_rng x (show (0 : Int) < 2000 by omega)
    rw [w64 (n := Int.tmod x 2000 + 2000) (by omega) (by omega)]
    have h4 := tmod_pos (a := Int.tmod x 2000 + 2000) (show (0 : Int) < 2000 by omega) (by omega)
    rw [w64 (by omega) (by omega)]; omega
  generalize wrap64 (1 + Int.tmod (wrap64 (Int.tmod x 2000 + 2000)) 2000) = k at hk ⊢
  rw [w64 (n := k - 1) (by omega) (by omega), w64 (n := k + 1) (by omega) (by omega)]
  rw [Of_yes K hok (x := k - 1) (by omega) (by omega) (by omega)]
  simp only [Option.bind_some]
  rw [Of_yes K hok (x := k) (by omega) (by omega) (by omega)]
  simp only [Option.bind_some]
  rw [Before_is K hok (x := k + 1) (by omega) (by omega) (by omega)]
  have hmono := Hm.of_mono (okL_map hok) (show k - 1 ≤ k by omega)
  have hrise := steps_rise (okL_map hok) (k := k) hk.1
  have hback := steps_back (okL_map hok) (k := k) hk.1
  by_cases hne : r = []
  · subst hne
    rw [Next_nil K (by omega)]
    simp [Hm.of, Hm.before, Hm.bef]
  · have hne' : r.map tk ≠ [] := by simpa using hne
    have hgt := Hm.next_gt hne' (okL_map hok) (k - 1)
    have hle : Hm.next (r.map tk) (k - 1) ≤ 1099511627776 := by
      obtain ⟨t, ht⟩ := List.exists_mem_of_ne_nil _ hne'
      have h1 := Hm.next_le ht (k - 1)
      have h2 := Hm.due_le (okL_map hok t ht) (show 0 ≤ k - 1 by omega)
      obtain ⟨_, _, _, _, _, _, _, _⟩ := okL_map hok t ht
      omega
    rw [Next_is K hok hne (x := k - 1) (by omega) (by omega) (by omega), if_neg (by omega)]
    simp only [Option.bind_some]
    have hlen : decide ((r.length : Int) > 0) = true := by
      have : 0 < r.length := List.length_pos_iff.2 hne
      simpa using this
    rw [hlen]
    simp only [if_true]
    have e1 : decide (Hm.of (r.map tk) k > Hm.of (r.map tk) (k - 1)) = (Hm.next (r.map tk) (k - 1) == k) := by
      rw [Bool.eq_iff_iff]
      simp only [decide_eq_true_eq, beq_iff_eq]
      exact ⟨fun h => (hrise.1 h).2, fun h => hrise.2 ⟨hne', h⟩⟩
    rw [e1, if_pos (by simp), if_pos hmono, if_pos (by decide), if_pos (by omega)]
    by_cases hb : 0 < Hm.before (r.map tk) (k + 1)
    · rw [if_pos (by simpa using hb)]
      have e2 : (Hm.next (r.map tk) (k - 1) == k) = (Hm.before (r.map tk) (k + 1) == k) := by
        rw [Bool.eq_iff_iff]
        simp only [beq_iff_eq]
        exact ⟨fun h => (hback.1 ⟨hne', h⟩).2, fun h => (hback.2 ⟨hb, h⟩).2⟩
      rw [e2]; simp
    · rw [if_neg (by simpa using hb)]
      have e2 : (Hm.next (r.map tk) (k - 1) == k) = false := by
        rw [beq_eq_false_iff_ne]
        exact fun h => hb (hback.1 ⟨hne', h⟩).1
      rw [e2]; rfl
end Go.Proofs.Ytaifojmlbbaabaa.Pure
