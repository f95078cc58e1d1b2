/- DemandTells, the plain part: the work and the deadlines are those of the document. -/
import Derived.Test.YtaifojmlbbaabaaPDemandTellsx5
import Derived.Test.YtaifojmlbbaabaaMDem
import Derived.Test.YtaifojmlbbaabaaMDead

namespace Go.Proofs.Ytaifojmlbbaabaa.Pure
open Go.RowKit Go.Proofs.Ytaifojmlbbaabaa.PDemandTells Go.Proofs.YtaifojmlbbaabaaW.PrintWords Go.Proofs.YtaifojmlbbaabaaW.PrintLast Go.Proofs.YtaifojmlbbaabaaW.PrintMore
set_option linter.unusedVariables false
set_option linter.unusedSimpArgs false

theorem w64 {n : Int} (h1 : -9223372036854775808 ≤ n) (h2 : n ≤ 9223372036854775807) : wrap64 n = n := by unfold wrap64; omega
theorem some_k {k : Nat} (h : 0 < k) : ∃ m, k = m + 1 := ⟨k - 1, by omega⟩
theorem tmod_rng (a : Int) {m : Int} (h : 0 < m) : -m < Int.tmod a m ∧ Int.tmod a m < m := by
  rcases Int.le_total 0 a with ha | ha
  · have h2 := Int.tmod_lt_of_pos a h; have h3 := Int.tmod_nonneg m ha; omega
  · have h2 := Int.tmod_lt_of_pos (-a) h; have h3 := Int.tmod_nonneg m (show 0 ≤ -a by omega)
    rw [Int.neg_tmod] at h2 h3; omega
theorem tmod_pos {a m : Int} (h : 0 < m) (ha : 0 ≤ a) : 0 ≤ Int.tmod a m ∧ Int.tmod a m < m := ⟨Int.tmod_nonneg m ha, Int.tmod_lt_of_pos a h⟩
theorem u64 (n : Int) : IntKind.u64.wrap n = n % 18446744073709551616 := by simp [IntKind.wrap, IntKind.bits, IntKind.signed]
theorem u64in {n : Int} (h1 : 0 ≤ n) (h2 : n < 18446744073709551616) : IntKind.u64.wrap n = n := by rw [u64]; omega

def tk (s : S28) : Hm.Tk := ⟨s.f0, s.f1, s.f2, s.f3, s.f4⟩
theorem taskB_ok (s : S28) : taskB s = true ↔ (tk s).ok := by
  unfold taskB Hm.Tk.ok tk
  simp only [Bool.and_eq_true, decide_eq_true_eq]
/-- Tasks may be. -/
def okL (l : List S28) : Prop := l.length ≤ 16 ∧ ∀ s ∈ l, (tk s).ok
theorem row_yes {l : List S28} (h : okL l) : param_Row.f l = some true := by
  unfold param_Row.f
  have h1 : l.all taskB = true := by rw [List.all_eq_true]; intro s hs; exact (taskB_ok s).2 (h.2 s hs)
  rw [h1]; simp [h.1]
theorem row_no {l : List S28} (h : ¬ okL l) : param_Row.f l = some false := by
  unfold param_Row.f
  by_cases h1 : l.length ≤ 16
  · have h2 : l.all taskB = false := by
      rw [Bool.eq_false_iff]; intro h3; rw [List.all_eq_true] at h3
      exact h ⟨h1, fun s hs => (taskB_ok s).1 (h3 s hs)⟩
    rw [h2]; simp
  · simp [h1]
theorem okL_map {l : List S28} (h : okL l) : ∀ t ∈ l.map tk, t.ok := by
  intro t ht; obtain ⟨s, hs, rfl⟩ := List.mem_map.1 ht; exact h.2 s hs
theorem rd_mid (pre : List S28) (s : S28) (suf : List S28) : rd_T28 (pre ++ s :: suf) (pre.length : Int) = s := by
  simp [rd_T28]

theorem may_yes {l : List S28} {x : Int} (h : okL l) (h0 : 0 ≤ x) (h1 : x ≤ 1099511627776) : demand_may.f l x = some true := by
  unfold demand_may.f; rw [row_yes h]; simp only [Option.bind_some, if_true]; rw [if_pos h0]; simp [h1]
theorem may_no {l : List S28} {x : Int} (h : ¬ (okL l ∧ 0 ≤ x ∧ x ≤ 1099511627776)) : demand_may.f l x = some false := by
  unfold demand_may.f
  by_cases hl : okL l
  · rw [row_yes hl]; simp only [Option.bind_some, if_true]
    by_cases h0 : 0 ≤ x
    · rw [if_pos h0]; have : ¬ x ≤ 1099511627776 := fun h1 => h ⟨hl, h0, h1⟩
      simp [this]
    · rw [if_neg h0]
  · rw [row_no hl]; rfl
theorem many_is {s : S28} {x : Int} (h : (tk s).ok) (h0 : -1 ≤ x) (h1 : x ≤ 1099511627777) : demand_many.f s.f0 s.f1 s.f2 s.f3 s.f4 x = some (Hm.many (tk s) x) := by
  obtain ⟨_, _, h2, h3, h4, h5, _, _⟩ := h
  simp only [tk] at h2 h3 h4 h5
  unfold demand_many.f
  by_cases hd : x < s.f2
  · rw [if_pos hd, Hm.many_lo (show x < (tk s).d from hd)]
  · rw [if_neg hd, if_neg (by omega), Hm.many_hi (show (tk s).d ≤ x from Int.not_lt.1 hd)]
    show _ = some ((x - s.f2) / s.f3 + 1)
    have hq := Hm.quo_lo (x - s.f2) (show 0 < s.f3 by omega)
    have hn := Int.ediv_nonneg (show 0 ≤ x - s.f2 by omega) (show 0 ≤ s.f3 by omega)
    have hm : (x - s.f2) / s.f3 ≤ s.f3 * ((x - s.f2) / s.f3) := by
      have := Int.mul_le_mul_of_nonneg_right (show 1 ≤ s.f3 by omega) hn; omega
    rw [w64 (n := x - s.f2) (by omega) (by omega), Int.tdiv_eq_ediv_of_nonneg (by omega), w64 (n := (x - s.f2) / s.f3) (by omega) (by omega), w64 (by omega) (by omega)]
theorem of_loop {x : Int} (h0 : 0 ≤ x) (h1 : x ≤ 1099511627776) (suf : List S28) : ∀ (pre : List S28) (k : Nat) (acc : Int), okL (pre ++ suf) → suf.length < k → 0 ≤ acc → acc ≤ (pre.length : Int) * 2000000000000 →
    demand_Of.l0 k x acc (pre ++ suf) ((pre ++ suf).length : Int) (pre.length : Int) = some (acc + Hm.of (suf.map tk) x) := by
  induction suf with
  | nil =>
    intro pre k acc _ hk _ _
    obtain ⟨k, rfl⟩ := some_k hk
    simp only [demand_Of.l0, List.append_nil, List.map_nil, Hm.of]
    rw [if_neg (by omega)]; simp
  | cons s suf ih =>
    intro pre k acc hok hk ha hb
    obtain ⟨k, rfl⟩ := some_k (show 0 < k by omega)
    have hs : (tk s).ok := hok.2 s (by simp)
    have hw := Hm.work_le hs h0
    have hlen := hok.1
    simp only [List.length_append, List.length_cons] at hlen hk
    have hc : (tk s).c = s.f1 := rfl
    rw [hc] at hw
    have i1 : ((pre ++ s :: suf).length : Int) = (pre.length : Int) + ((suf.length : Int) + 1) := by simp
    have i2 := ih (pre ++ [s]) k (acc + s.f1 * Hm.many (tk s) x) (by simpa using hok) (by omega) (by omega) (by simp only [List.length_append, List.length_singleton]; omega)
    simp only [List.append_assoc, List.cons_append, List.nil_append] at i2
    have i3 : ((pre ++ [s]).length : Int) = (pre.length : Int) + 1 := by simp
    rw [i3] at i2
    simp only [demand_Of.l0]
    rw [if_pos (by omega), if_pos (by omega), if_pos (by omega), rd_mid, many_is hs (by omega) (by omega)]
    simp only [Option.bind_some]
    rw [w64 (n := s.f1 * Hm.many (tk s) x) (by omega) (by omega), w64 (n := acc + s.f1 * Hm.many (tk s) x) (by omega) (by omega), w64 (n := (pre.length : Int) + 1) (by omega) (by omega), i2]
    simp only [List.map_cons, Hm.of, hc]
    congr 1; omega
theorem Of_yes {l : List S28} {x : Int} (k : Nat) (h : okL l) (h0 : 0 ≤ x) (h1 : x ≤ 1099511627776) (hk : 17 ≤ k) : demand_Of.f k l x = some (Hm.of (l.map tk) x) := by
  unfold demand_Of.f
  rw [may_yes h h0 h1]; simp only [Option.bind_some, if_true]
  have := of_loop h0 h1 l [] k 0 (by simpa using h) (by have := h.1; omega) (by omega) (by simp)
  simpa using this
theorem Of_no {l : List S28} {x : Int} (k : Nat) (h : ¬ (okL l ∧ 0 ≤ x ∧ x ≤ 1099511627776)) : demand_Of.f k l x = some 0 := by
  unfold demand_Of.f
  rw [may_no h]; simp only [Option.bind_some]; rfl

theorem rd_midI (pre : List Int) (s : Int) (suf : List Int) : rd (pre ++ s :: suf) (pre.length : Int) = s := by
  simp [rd]
theorem least_loop (suf : List Int) : ∀ (pre : List Int) (k : Nat) (m : Int), (pre ++ suf).length ≤ 1000 → suf.length < k →
    demand_least.l0 k m (pre ++ suf) ((pre ++ suf).length : Int) (pre.length : Int) = some (Hm.minL m suf) := by
  induction suf with
  | nil =>
    intro pre k m _ hk
    obtain ⟨k, rfl⟩ := some_k hk
    simp only [demand_least.l0, List.append_nil, Hm.minL]
    rw [if_neg (by omega)]
  | cons s suf ih =>
    intro pre k m hl hk
    obtain ⟨k, rfl⟩ := some_k (show 0 < k by omega)
    simp only [List.length_append, List.length_cons] at hl hk
    have i1 : ((pre ++ s :: suf).length : Int) = (pre.length : Int) + ((suf.length : Int) + 1) := by simp
    have i2 := ih (pre ++ [s]) k (mn m s) (by simp; omega) (by omega)
    simp only [List.append_assoc, List.cons_append, List.nil_append] at i2
    rw [show ((pre ++ [s]).length : Int) = (pre.length : Int) + 1 from by simp] at i2
    simp only [demand_least.l0]
    rw [if_pos (by omega), if_pos (by omega), if_pos (by omega), rd_midI, w64 (by omega) (by omega)]
    exact i2
theorem least_is (x : Int) (l : List Int) (k : Nat) (hl : l.length ≤ 900) (hk : 1000 ≤ k) : demand_least.f k (x :: l) = some (Hm.minL x (x :: l)) := by
  unfold demand_least.f
  rw [if_pos (by simp only [List.length_cons]; omega)]
  have := least_loop (x :: l) [] k x (by simp only [List.nil_append, List.length_cons]; omega) (by simp only [List.length_cons]; omega)
  simpa [rd] using this
theorem next_loop {x : Int} (h0 : 0 ≤ x) (h1 : x ≤ 1099511627776) (suf : List S28) : ∀ (pre : List S28) (k : Nat), okL (pre ++ suf) → (pre ++ suf) ≠ [] → suf.length + 1001 ≤ k →
    demand_Next.l0 k x (pre.map fun s => Hm.due (tk s) x) (pre ++ suf) ((pre ++ suf).length : Int) (pre.length : Int) =
      some (if Hm.next ((pre ++ suf).map tk) x > 1099511627776 then (0, false) else (Hm.next ((pre ++ suf).map tk) x, true)) := by
  induction suf with
  | nil =>
    intro pre k hok hne hk
    obtain ⟨k, rfl⟩ := some_k (show 0 < k by omega)
    simp only [List.append_nil] at hok hne ⊢
    simp only [demand_Next.l0]
    rw [if_neg (by omega)]
    match pre, hok, hne with
    | s :: r, hok, _ =>
      have hlen := hok.1
      simp only [List.length_cons] at hlen
      rw [List.map_cons, least_is _ _ k (by simp; omega) (by simp at hk; omega)]
      simp only [Option.bind_some]
      have e : Hm.minL (Hm.due (tk s) x) (Hm.due (tk s) x :: r.map fun s => Hm.due (tk s) x) = Hm.next ((s :: r).map tk) x := by
        simp [Hm.next, List.map_map, Function.comp_def]
      rw [e]
      split <;> rfl
  | cons s suf ih =>
    intro pre k hok _ hk
    obtain ⟨k, rfl⟩ := some_k (show 0 < k by omega)
    have hs : (tk s).ok := hok.2 s (by simp)
    have hlen := hok.1
    simp only [List.length_append, List.length_cons] at hlen hk
    have hw := Hm.due_le hs h0
    have hg := Hm.due_gt (t := tk s) (x := x) (by obtain ⟨_, _, _, _, _, _, _, _⟩ := hs; omega)
    have hmn := Hm.many_nonneg (t := tk s) (x := x) (by obtain ⟨_, _, _, _, _, _, _, _⟩ := hs; omega)
    obtain ⟨_, _, h2, h3, h4, h5, _, _⟩ := id hs
    have hd : (tk s).d = s.f2 := rfl
    have ht : (tk s).t = s.f3 := rfl
    have hdue : Hm.due (tk s) x = s.f2 + s.f3 * Hm.many (tk s) x := rfl
    rw [hdue] at hw hg
    rw [hd] at h3 h4; rw [ht] at h4 h5 hw
    have hmm := Int.mul_nonneg (show 0 ≤ s.f3 by omega) hmn
    have i1 : ((pre ++ s :: suf).length : Int) = (pre.length : Int) + ((suf.length : Int) + 1) := by simp
    have i2 := ih (pre ++ [s]) k (by simpa using hok) (by simp) (by omega)
    simp only [List.append_assoc, List.cons_append, List.nil_append, List.map_append, List.map_cons, List.map_nil] at i2
    rw [show ((pre ++ [s]).length : Int) = (pre.length : Int) + 1 from by simp, hdue] at i2
    simp only [demand_Next.l0]
    rw [if_pos (by omega), if_pos (by omega), if_pos (by omega), rd_mid, many_is hs (by omega) (by omega)]
    simp only [Option.bind_some]
    rw [if_pos (by simp; omega), w64 (n := s.f3 * Hm.many (tk s) x) (by omega) (by omega), w64 (n := s.f2 + s.f3 * Hm.many (tk s) x) (by omega) (by omega), w64 (n := (pre.length : Int) + 1) (by omega) (by omega), i2]
    simp
theorem Next_is {l : List S28} {x : Int} (k : Nat) (h : okL l) (hne : l ≠ []) (h0 : 0 ≤ x) (h1 : x ≤ 1099511627776) (hk : 1100 ≤ k) :
    demand_Next.f k l x = some (if Hm.next (l.map tk) x > 1099511627776 then (0, false) else (Hm.next (l.map tk) x, true)) := by
  unfold demand_Next.f
  rw [may_yes h h0 h1]; simp only [Option.bind_some, if_true]
  obtain ⟨k, rfl⟩ := some_k (show 0 < k by omega)
  simp only [demand_Next.j0]
  have hl := h.1
  have hz : ((l.length : Int) == 0) = false := by
    rw [beq_eq_false_iff_ne]; intro e; exact hne (List.length_eq_zero_iff.1 (by omega))
  rw [hz]; simp only [Bool.false_eq_true, if_false]
  have := next_loop h0 h1 l [] k (by simpa using h) (by simpa using hne) (by omega)
  simpa using this
theorem Next_nil {x : Int} (k : Nat) (hk : 1 ≤ k) : demand_Next.f k [] x = some (0, false) := by
  unfold demand_Next.f
  obtain ⟨k, rfl⟩ := some_k (show 0 < k by omega)
  by_cases h : 0 ≤ x ∧ x ≤ 1099511627776
  · rw [may_yes (l := []) ⟨by simp, by simp⟩ h.1 h.2]; simp [demand_Next.j0]
  · rw [may_no (l := []) (fun hh => h hh.2)]; simp [demand_Next.j0]
theorem Next_no {l : List S28} {x : Int} (k : Nat) (h : ¬ (okL l ∧ 0 ≤ x ∧ x ≤ 1099511627776)) (hk : 1 ≤ k) : demand_Next.f k l x = some (0, false) := by
  unfold demand_Next.f
  obtain ⟨k, rfl⟩ := some_k (show 0 < k by omega)
  rw [may_no h]; simp [demand_Next.j0]

def rowB (l : List S28) : Bool := decide (l.length ≤ 16) && l.all taskB
theorem rowB_ok (l : List S28) : rowB l = true ↔ okL l := by
  unfold rowB okL
  simp only [Bool.and_eq_true, decide_eq_true_eq, List.all_eq_true]
  exact ⟨fun h => ⟨h.1, fun s hs => (taskB_ok s).1 (h.2 s hs)⟩, fun h => ⟨h.1, fun s hs => (taskB_ok s).2 (h.2 s hs)⟩⟩
theorem row_is (l : List S28) : param_Row.f l = some (rowB l) := rfl

def mayB (l : List S28) (x : Int) : Bool := rowB l && (decide (0 ≤ x) && decide (x ≤ 1099511627776))
theorem mayB_ok {l : List S28} {x : Int} : mayB l x = true ↔ okL l ∧ 0 ≤ x ∧ x ≤ 1099511627776 := by
  unfold mayB
  simp only [Bool.and_eq_true, decide_eq_true_eq, rowB_ok]
theorem may_is (l : List S28) (x : Int) : demand_may.f l x = some (mayB l x) := by
  by_cases h : mayB l x = true
  · obtain ⟨h1, h2, h3⟩ := mayB_ok.1 h
    rw [may_yes h1 h2 h3, h]
  · rw [may_no (fun h' => h (mayB_ok.2 h')), Bool.eq_false_iff.2 h]
/-- What Next tells. -/
def nextV (l : List S28) (x : Int) : Int × Bool := if (mayB l x && !l.isEmpty && !decide (Hm.next (l.map tk) x > 1099511627776)) = true then (Hm.next (l.map tk) x, true) else (0, false)
theorem Next_all (k : Nat) (l : List S28) (x : Int) (hk : 1100 ≤ k) : demand_Next.f k l x = some (nextV l x) := by
  unfold nextV
  by_cases h : mayB l x = true
  · obtain ⟨h1, h2, h3⟩ := mayB_ok.1 h
    by_cases hne : l = []
    · subst hne; rw [Next_nil k (by omega)]; simp
    · rw [Next_is k h1 hne h2 h3 hk]
      have he : l.isEmpty = false := by simpa using hne
      by_cases hg : Hm.next (l.map tk) x > 1099511627776
      · simp [h, he, hg]
      · simp [h, he, hg]
  · rw [Next_no k (fun h' => h (mayB_ok.2 h')) (by omega)]
    simp [Bool.eq_false_iff.2 h]
def ofV (l : List S28) (x : Int) : Int := if mayB l x = true then Hm.of (l.map tk) x else 0
theorem Of_all (k : Nat) (l : List S28) (x : Int) (hk : 17 ≤ k) : demand_Of.f k l x = some (ofV l x) := by
  unfold ofV
  by_cases h : mayB l x = true
  · obtain ⟨h1, h2, h3⟩ := mayB_ok.1 h
    rw [if_pos h, Of_yes k h1 h2 h3 hk]
  · rw [if_neg h, Of_no k (fun h' => h (mayB_ok.2 h'))]

theorem rcheck_is (s : S28) : horariumref09_Check.f s.f0 s.f1 s.f2 s.f3 s.f4 = some (taskB s) := by
  have e : taskB s = true ↔ (tk s).ok := taskB_ok s
  unfold Hm.Tk.ok tk at e
  simp only at e
  unfold horariumref09_Check.f
  by_cases h : taskB s = true
  · obtain ⟨h1, h2, h3, h4, h5, h6, h7, h8⟩ := e.1 h
    rw [h, if_pos (by omega), if_pos (by omega), if_pos (by omega), if_pos (by omega), if_pos (by omega), if_pos (by omega), if_pos (by omega), decide_eq_true h8]
  · have hf : taskB s = false := Bool.eq_false_iff.2 h
    rw [hf]
    repeat' split
    all_goals first | rfl | skip
    all_goals (congr 1; rw [decide_eq_false_iff_not]; intro h8; exact h (e.2 ⟨by omega, by omega, by omega, by omega, by omega, by omega, by omega, h8⟩))

theorem rrowall_loop (suf : List S28) : ∀ (pre : List S28) (k : Nat), (pre ++ suf).length ≤ 1000000000000000000 → suf.length < k → horariumref09_Row.l0 k (pre ++ suf) (pre.length : Int) = some (suf.all taskB && decide ((pre ++ suf).length ≤ 16)) := by
  induction suf with
  | nil =>
    intro pre k hlen hk
    obtain ⟨k, rfl⟩ := some_k hk
    simp only [horariumref09_Row.l0, List.append_nil] at hlen ⊢
    rw [if_neg (by omega)]
    simp only [List.all_nil, Bool.true_and]
    congr 1
    by_cases h : pre.length ≤ 16
    · rw [decide_eq_true h, decide_eq_true (by omega)]
    · rw [decide_eq_false h, decide_eq_false (by omega)]
  | cons s suf ih =>
    intro pre k hlen hk
    obtain ⟨k, rfl⟩ := some_k (show 0 < k by omega)
    have i1 : ((pre ++ s :: suf).length : Int) = (pre.length : Int) + ((suf.length : Int) + 1) := by simp
    have i2 := ih (pre ++ [s]) k (by simpa using hlen) (by simp at hk; omega)
    simp only [List.append_assoc, List.cons_append, List.nil_append] at i2
    rw [show ((pre ++ [s]).length : Int) = (pre.length : Int) + 1 from by simp] at i2
    simp only [horariumref09_Row.l0]
    rw [if_pos (by omega), if_pos (by omega), rd_mid, rcheck_is]
    simp only [Option.bind_some, List.all_cons]
    cases taskB s with
    | false => rfl
    | true =>
      simp only [if_true, Bool.true_and]
      rw [w64 (by omega) (by omega)]
      exact i2
theorem rrow_all (k : Nat) (l : List S28) (hl : l.length ≤ 1000000000000000000) (hk : l.length < k) : horariumref09_Row.f k l = some (rowB l) := by
  have := rrowall_loop l [] k (by simpa using hl) hk
  unfold horariumref09_Row.f rowB
  rw [Bool.and_comm]
  exact this

theorem rtime_is (x : Int) : horariumref10_time.f x = some (decide (0 ≤ x) && decide (x ≤ 1099511627776)) := by
  unfold horariumref10_time.f
  by_cases h : 0 ≤ x
  · rw [if_pos h, decide_eq_true h]; rfl
  · rw [if_neg h, decide_eq_false h]; rfl

theorem rnext_is {s : S28} {x : Int} (h : (tk s).ok) (h0 : 0 ≤ x) (h1 : x ≤ 1099511627776) : horariumref10_next.f s.f0 s.f1 s.f2 s.f3 s.f4 x = some (Hm.due (tk s) x) := by
  have hd := Hm.due_le h h0
  have hg := Hm.due_gt (t := tk s) (x := x) (by obtain ⟨_, _, _, _, _, _, _, _⟩ := h; omega)
  obtain ⟨_, _, h2, h3, h4, h5, _, _⟩ := h
  simp only [tk] at h2 h3 h4 h5
  unfold horariumref10_next.f
  have e : Hm.due (tk s) x = s.f2 + s.f3 * Hm.many (tk s) x := rfl
  by_cases hx : x < s.f2
  · rw [if_pos hx, e, Hm.many_lo (show x < (tk s).d from hx)]; simp
  · have hm : Hm.many (tk s) x = (x - s.f2) / s.f3 + 1 := Hm.many_hi (show (tk s).d ≤ x by show s.f2 ≤ x; omega)
    rw [e, hm] at hd hg
    have ht : (tk s).t = s.f3 := rfl
    rw [ht] at hd
    have hq := Int.ediv_nonneg (show 0 ≤ x - s.f2 by omega) (show 0 ≤ s.f3 by omega)
    have hq2 := Int.ediv_le_self s.f3 (show 0 ≤ x - s.f2 by omega)
    have hmm := Int.mul_nonneg (show 0 ≤ s.f3 by omega) (show 0 ≤ (x - s.f2) / s.f3 + 1 by omega)
    rw [if_neg hx, if_neg (by omega), w64 (n := x - s.f2) (by omega) (by omega), Int.tdiv_eq_ediv_of_nonneg (by omega), w64 (n := (x - s.f2) / s.f3) (by omega) (by omega), w64 (n := (x - s.f2) / s.f3 + 1) (by omega) (by omega), w64 (n := s.f3 * ((x - s.f2) / s.f3 + 1)) (by omega) (by omega), w64 (by omega) (by omega), e, hm]
theorem rnext_loop {x : Int} (h0 : 0 ≤ x) (h1 : x ≤ 1099511627776) (suf : List S28) : ∀ (pre : List S28) (k : Nat) (m : Int), okL (pre ++ suf) → suf.length < k →
    horariumref10_Next.l0 k (pre ++ suf) x m (pre.length : Int) = some (if Hm.minL m (suf.map fun s => Hm.due (tk s) x) > 1099511627776 then (0, false) else (Hm.minL m (suf.map fun s => Hm.due (tk s) x), true)) := by
  induction suf with
  | nil =>
    intro pre k m _ hk
    obtain ⟨k, rfl⟩ := some_k hk
    simp only [horariumref10_Next.l0, List.append_nil, List.map_nil, Hm.minL]
    rw [if_neg (by omega)]
    split <;> rfl
  | cons s suf ih =>
    intro pre k m hok hk
    obtain ⟨k, rfl⟩ := some_k (show 0 < k by omega)
    have hs : (tk s).ok := hok.2 s (by simp)
    have hlen := hok.1
    simp only [List.length_append, List.length_cons] at hlen hk
    have i1 : ((pre ++ s :: suf).length : Int) = (pre.length : Int) + ((suf.length : Int) + 1) := by simp
    have i2 := fun m => ih (pre ++ [s]) k m (by simpa using hok) (by omega)
    simp only [List.append_assoc, List.cons_append, List.nil_append] at i2
    rw [show ((pre ++ [s]).length : Int) = (pre.length : Int) + 1 from by simp] at i2
    simp only [horariumref10_Next.l0]
    rw [if_pos (by omega), if_pos (by omega), rd_mid, rnext_is hs h0 h1]
    simp only [Option.bind_some]
    rw [w64 (n := (pre.length : Int) + 1) (by omega) (by omega), i2, i2]
    simp only [List.map_cons, Hm.minL]
    by_cases hd : Hm.due (tk s) x < m
    · simp only [hd, if_true]
    · simp only [hd, if_false]
theorem rNext_all (k : Nat) (l : List S28) (x : Int) (hl : l.length ≤ 1000000000000000000) (hk : l.length + 20 < k) : horariumref10_Next.f k l x = some (nextV l x) := by
  unfold horariumref10_Next.f
  rw [rrow_all k l hl (by omega), rtime_is]; simp only [Option.bind_some]
  obtain ⟨k, rfl⟩ := some_k (show 0 < k by omega)
  by_cases h : mayB l x = true
  · obtain ⟨h1, h2, h3⟩ := mayB_ok.1 h
    have hr : rowB l = true := (rowB_ok l).2 h1
    rw [hr, decide_eq_true h2, decide_eq_true h3]
    simp only [Bool.and_self, if_true, horariumref10_Next.j0]
    match l, h1, h, hk, hl with
    | [], _, _, _, _ => simp [nextV]
    | s :: r, h1, h, hk, hl =>
      have e : nextV (s :: r) x = if Hm.next ((s :: r).map tk) x > 1099511627776 then (0, false) else (Hm.next ((s :: r).map tk) x, true) := by
        unfold nextV
        by_cases hg : Hm.next ((s :: r).map tk) x > 1099511627776
        · simp only [h, hg]; simp
        · simp only [h, hg]; simp
      have hs := h1.2 s (by simp)
      rw [if_neg (by simp; try omega), if_pos (by simp; try omega)]
      rw [show rd_T28 (s :: r) 0 = s from by simp [rd_T28], rnext_is hs h2 h3]
      simp only [Option.bind_some]
      have hz := rnext_loop h2 h3 r [s] k (Hm.due (tk s) x) (by simpa using h1) (by simp at hk; omega)
      simp only [List.cons_append, List.nil_append, List.length_singleton] at hz
      rw [show ((1 : Nat) : Int) = 1 from rfl] at hz
      rw [hz, e]
      have en : Hm.next ((s :: r).map tk) x = Hm.minL (Hm.due (tk s) x) (r.map fun s => Hm.due (tk s) x) := by
        simp only [List.map_cons, Hm.next, Hm.minL, List.map_map]
        rw [if_neg (by omega)]; rfl
      rw [en]
  · have e : nextV l x = (0, false) := by unfold nextV; simp [Bool.eq_false_iff.2 h]
    rw [e]
    unfold mayB at h
    by_cases hr : rowB l = true
    · rw [if_pos hr]
      have : (decide (0 ≤ x) && decide (x ≤ 1099511627776)) = false := by
        rw [hr, Bool.true_and] at h; exact Bool.eq_false_iff.2 h
      rw [this]; simp [horariumref10_Next.j0]
    · rw [if_neg hr]; simp [horariumref10_Next.j0]

theorem check_yes {s : S28} (h : (tk s).ok) : horariumref09_Check.f s.f0 s.f1 s.f2 s.f3 s.f4 = some true := by
  obtain ⟨h1, h2, h3, h4, h5, h6, h7, h8⟩ := h
  simp only [tk] at h1 h2 h3 h4 h5 h6 h7 h8
  unfold horariumref09_Check.f
  rw [if_pos (by omega), if_pos (by omega), if_pos (by omega), if_pos (by omega), if_pos (by omega), if_pos (by omega), if_pos (by omega), decide_eq_true h8]
theorem rOne_yes {s : S28} {x : Int} (h : (tk s).ok) (h0 : 0 ≤ x) (h1 : x ≤ 1099511627776) : horariumref10_One.f s.f0 s.f1 s.f2 s.f3 s.f4 x = some (s.f1 * Hm.many (tk s) x) := by
  unfold horariumref10_One.f horariumref10_time.f
  rw [check_yes h, if_pos (by omega), decide_eq_true (by omega)]
  simp only [Option.bind_some, if_true]
  have hw := Hm.work_le h h0
  obtain ⟨_, _, h2, h3, h4, h5, _, _⟩ := h
  simp only [tk] at h2 h3 h4 h5
  by_cases hx : x < s.f2
  · rw [if_pos hx, Hm.many_lo (show x < (tk s).d from hx), Int.mul_zero]
  · have hm : Hm.many (tk s) x = (x - s.f2) / s.f3 + 1 := Hm.many_hi (show (tk s).d ≤ x by show s.f2 ≤ x; omega)
    have hc : (tk s).c = s.f1 := rfl
    rw [hc, hm] at hw
    have hq := Int.ediv_nonneg (show 0 ≤ x - s.f2 by omega) (show 0 ≤ s.f3 by omega)
    have hq2 := Int.ediv_le_self s.f3 (show 0 ≤ x - s.f2 by omega)
    rw [if_neg hx, if_neg (by omega), w64 (n := x - s.f2) (by omega) (by omega), Int.tdiv_eq_ediv_of_nonneg (by omega), w64 (n := (x - s.f2) / s.f3) (by omega) (by omega), w64 (n := (x - s.f2) / s.f3 + 1) (by omega) (by omega), w64 (by omega) (by omega), hm]

theorem rone_no {s : S28} {x : Int} (h : ¬ ((tk s).ok ∧ 0 ≤ x ∧ x ≤ 1099511627776)) : horariumref10_One.f s.f0 s.f1 s.f2 s.f3 s.f4 x = some 0 := by
  unfold horariumref10_One.f
  rw [rcheck_is, rtime_is]
  simp only [Option.bind_some]
  by_cases h1 : taskB s = true
  · rw [if_pos h1, if_neg]
    intro h2
    simp only [Bool.and_eq_true, decide_eq_true_eq] at h2
    exact h ⟨(taskB_ok s).1 h1, h2⟩
  · rw [if_neg h1]
theorem rof_loop {x : Int} (h0 : 0 ≤ x) (h1 : x ≤ 1099511627776) (suf : List S28) : ∀ (pre : List S28) (k : Nat) (acc : Int), okL (pre ++ suf) → suf.length < k → 0 ≤ acc → acc ≤ (pre.length : Int) * 2000000000000 →
    horariumref10_Of.l0 k (pre ++ suf) x true acc (pre.length : Int) = some (acc + Hm.of (suf.map tk) x) := by
  induction suf with
  | nil =>
    intro pre k acc _ hk _ _
    obtain ⟨k, rfl⟩ := some_k hk
    simp only [horariumref10_Of.l0, List.append_nil, List.map_nil, Hm.of]
    rw [if_neg (by omega)]; simp
  | cons s suf ih =>
    intro pre k acc hok hk ha hb
    obtain ⟨k, rfl⟩ := some_k (show 0 < k by omega)
    have hs : (tk s).ok := hok.2 s (by simp)
    have hw := Hm.work_le hs h0
    have hlen := hok.1
    simp only [List.length_append, List.length_cons] at hlen hk
    have hc : (tk s).c = s.f1 := rfl
    rw [hc] at hw
    have i1 : ((pre ++ s :: suf).length : Int) = (pre.length : Int) + ((suf.length : Int) + 1) := by simp
    have i2 := ih (pre ++ [s]) k (acc + s.f1 * Hm.many (tk s) x) (by simpa using hok) (by omega) (by omega) (by simp only [List.length_append, List.length_singleton]; omega)
    simp only [List.append_assoc, List.cons_append, List.nil_append] at i2
    rw [show ((pre ++ [s]).length : Int) = (pre.length : Int) + 1 from by simp] at i2
    simp only [horariumref10_Of.l0]
    rw [if_pos (by omega), if_pos trivial, if_pos (by omega), rd_mid, rOne_yes hs h0 h1]
    simp only [Option.bind_some]
    rw [w64 (n := acc + s.f1 * Hm.many (tk s) x) (by omega) (by omega), w64 (n := (pre.length : Int) + 1) (by omega) (by omega), i2]
    simp only [List.map_cons, Hm.of, hc]
    congr 1; omega
theorem rof_zero {l : List S28} {x : Int} (hx : ¬ (0 ≤ x ∧ x ≤ 1099511627776)) (suf : List S28) : ∀ (pre : List S28) (k : Nat), l = pre ++ suf → l.length ≤ 1000000000000000000 → suf.length < k →
    horariumref10_Of.l0 k l x true 0 (pre.length : Int) = some 0 := by
  induction suf with
  | nil =>
    intro pre k e hl hk
    obtain ⟨k, rfl⟩ := some_k hk
    have e' : l.length = pre.length := by rw [e]; simp
    simp only [horariumref10_Of.l0]
    rw [if_neg (by omega)]
  | cons s suf ih =>
    intro pre k e hl hk
    obtain ⟨k, rfl⟩ := some_k (show 0 < k by omega)
    have i1 : (l.length : Int) = (pre.length : Int) + ((suf.length : Int) + 1) := by rw [e]; simp
    have i2 := ih (pre ++ [s]) k (by simpa using e) hl (by simp at hk; omega)
    rw [show ((pre ++ [s]).length : Int) = (pre.length : Int) + 1 from by simp] at i2
    simp only [horariumref10_Of.l0]
    rw [if_pos (by omega), if_pos trivial, if_pos (by omega), show rd_T28 l (pre.length : Int) = s from by rw [e, rd_mid], rone_no (fun h => hx h.2)]
    simp only [Option.bind_some]
    rw [w64 (n := 0 + 0) (by omega) (by omega), w64 (n := (pre.length : Int) + 1) (by omega) (by omega)]
    exact i2
theorem rOf_all (k : Nat) (l : List S28) (x : Int) (hl : l.length ≤ 1000000000000000000) (hk : l.length + 20 < k) : horariumref10_Of.f k l x = some (ofV l x) := by
  unfold horariumref10_Of.f ofV
  rw [rrow_all k l hl (by omega)]; simp only [Option.bind_some]
  by_cases hr : rowB l = true
  · have hok := (rowB_ok l).1 hr
    rw [hr]
    by_cases hx : 0 ≤ x ∧ x ≤ 1099511627776
    · rw [if_pos (mayB_ok.2 ⟨hok, hx.1, hx.2⟩)]
      have := rof_loop hx.1 hx.2 l [] k 0 (by simpa using hok) (by omega) (by omega) (by simp)
      simpa using this
    · rw [if_neg (fun h => hx (mayB_ok.1 h).2)]
      exact rof_zero hx l [] k (by simp) hl (by omega)
  · rw [if_neg (fun h => hr ((rowB_ok l).2 (mayB_ok.1 h).1)), Bool.eq_false_iff.2 hr]
    obtain ⟨k, rfl⟩ := some_k (show 0 < k by omega)
    simp only [horariumref10_Of.l0]
    split
    · rfl
    · rfl

theorem rOne_all (s : S28) (x : Int) : horariumref10_One.f s.f0 s.f1 s.f2 s.f3 s.f4 x = some (ofV [s] x) := by
  have hone : okL [s] ↔ (tk s).ok := ⟨fun h => h.2 s (by simp), fun h => ⟨by simp, by simpa using h⟩⟩
  by_cases h : (tk s).ok ∧ 0 ≤ x ∧ x ≤ 1099511627776
  · rw [rOne_yes h.1 h.2.1 h.2.2]
    unfold ofV
    rw [if_pos (mayB_ok.2 ⟨hone.2 h.1, h.2⟩)]
    simp [Hm.of, tk]
  · rw [rone_no h]
    unfold ofV
    rw [if_neg (fun h' => h ⟨hone.1 (mayB_ok.1 h').1, (mayB_ok.1 h').2⟩)]

theorem One_all (k : Nat) (s : S28) (x : Int) (hk : 17 ≤ k) : demand_One.f k s.f0 s.f1 s.f2 s.f3 s.f4 x = some (ofV [s] x) := by
  unfold demand_One.f
  rw [show (⟨s.f0, s.f1, s.f2, s.f3, s.f4⟩ : S28) = s from rfl, Of_all k [s] x hk]; rfl

theorem before_loop {x : Int} (h0 : 0 ≤ x) (h1 : x ≤ 1099511627776) (suf : List S28) : ∀ (pre : List S28) (k : Nat) (m : Int), okL (pre ++ suf) → suf.length < k → 0 ≤ m →
    demand_Before.l0 k x m (pre ++ suf) ((pre ++ suf).length : Int) (pre.length : Int) = some (Hm.bef m (suf.map tk) x, decide (Hm.bef m (suf.map tk) x > 0)) := by
  induction suf with
  | nil =>
    intro pre k m _ hk _
    obtain ⟨k, rfl⟩ := some_k hk
    simp only [demand_Before.l0, List.append_nil, List.map_nil, Hm.bef]
    rw [if_neg (by omega)]
  | cons s suf ih =>
    intro pre k m hok hk hm
    obtain ⟨k, rfl⟩ := some_k (show 0 < k by omega)
    have hs : (tk s).ok := hok.2 s (by simp)
    have hlen := hok.1
    simp only [List.length_append, List.length_cons] at hlen hk
    obtain ⟨_, _, h2, h3, h4, h5, _, _⟩ := id hs
    have hd : (tk s).d = s.f2 := rfl
    have ht : (tk s).t = s.f3 := rfl
    have i1 : ((pre ++ s :: suf).length : Int) = (pre.length : Int) + ((suf.length : Int) + 1) := by simp
    have hlast : Hm.last (tk s) x = s.f2 + s.f3 * (Hm.many (tk s) (x - 1) - 1) := rfl
    simp only [demand_Before.l0]
    rw [if_pos (by omega), if_pos (by omega), if_pos (by omega), rd_mid, w64 (n := x - 1) (by omega) (by omega), many_is hs (by omega) (by omega)]
    simp only [Option.bind_some]
    simp only [List.map_cons, Hm.bef]
    by_cases hp : 0 < Hm.many (tk s) (x - 1)
    · have hl := Hm.last_lt (t := tk s) (x := x) (by omega) hp
      rw [hlast, hd] at hl
      rw [hd] at h3 h4; rw [ht] at h4 h5
      have hmm := Int.mul_nonneg (show 0 ≤ s.f3 by omega) (show 0 ≤ Hm.many (tk s) (x - 1) - 1 by omega)
      have hm3 : Hm.many (tk s) (x - 1) - 1 ≤ s.f3 * (Hm.many (tk s) (x - 1) - 1) := by
        have := Int.mul_le_mul_of_nonneg_right (show 1 ≤ s.f3 by omega) (show 0 ≤ Hm.many (tk s) (x - 1) - 1 by omega); omega
      rw [if_pos hp, if_pos hp, w64 (n := Hm.many (tk s) (x - 1) - 1) (by omega) (by omega), w64 (n := s.f3 * (Hm.many (tk s) (x - 1) - 1)) (by omega) (by omega), w64 (n := s.f2 + s.f3 * (Hm.many (tk s) (x - 1) - 1)) (by omega) (by omega), w64 (n := (pre.length : Int) + 1) (by omega) (by omega)]
      have i2 := ih (pre ++ [s]) k (mx m (s.f2 + s.f3 * (Hm.many (tk s) (x - 1) - 1))) (by simpa using hok) (by omega) (by unfold mx; split <;> omega)
      simp only [List.append_assoc, List.cons_append, List.nil_append] at i2
      rw [show ((pre ++ [s]).length : Int) = (pre.length : Int) + 1 from by simp] at i2
      rw [i2, hlast]
      rfl
    · rw [if_neg hp, if_neg hp, w64 (n := (pre.length : Int) + 1) (by omega) (by omega)]
      have i2 := ih (pre ++ [s]) k m (by simpa using hok) (by omega) hm
      simp only [List.append_assoc, List.cons_append, List.nil_append] at i2
      rw [show ((pre ++ [s]).length : Int) = (pre.length : Int) + 1 from by simp] at i2
      exact i2
theorem Before_is {l : List S28} {x : Int} (k : Nat) (h : okL l) (h0 : 0 ≤ x) (h1 : x ≤ 1099511627776) (hk : 17 ≤ k) :
    demand_Before.f k l x = some (Hm.before (l.map tk) x, decide (Hm.before (l.map tk) x > 0)) := by
  unfold demand_Before.f
  rw [may_yes h h0 h1]; simp only [Option.bind_some, if_true]
  have hl := h.1
  have := before_loop h0 h1 l [] k 0 (by simpa using h) (by omega) (by omega)
  simpa [Hm.before] using this
theorem Before_no {l : List S28} {x : Int} (k : Nat) (h : ¬ (okL l ∧ 0 ≤ x ∧ x ≤ 1099511627776)) : demand_Before.f k l x = some (0, false) := by
  unfold demand_Before.f
  rw [may_no h]; rfl

def beforeV (l : List S28) (x : Int) : Int × Bool := if mayB l x = true then (Hm.before (l.map tk) x, decide (Hm.before (l.map tk) x > 0)) else (0, false)
theorem Before_all (k : Nat) (l : List S28) (x : Int) (hk : 17 ≤ k) : demand_Before.f k l x = some (beforeV l x) := by
  unfold beforeV
  by_cases h : mayB l x = true
  · obtain ⟨h1, h2, h3⟩ := mayB_ok.1 h
    rw [if_pos h, Before_is k h1 h2 h3 hk]
  · rw [if_neg h, Before_no k (fun h' => h (mayB_ok.2 h'))]

theorem rbefore_loop {x : Int} (h0 : 0 ≤ x) (h1 : x ≤ 1099511627776) (suf : List S28) : ∀ (pre : List S28) (k : Nat) (m : Int), okL (pre ++ suf) → suf.length < k → 0 ≤ m →
    horariumref10_Before.l0 k (pre ++ suf) x m (pre.length : Int) = some (Hm.bef m (suf.map tk) x, decide (Hm.bef m (suf.map tk) x > 0)) := by
  induction suf with
  | nil =>
    intro pre k m _ hk _
    obtain ⟨k, rfl⟩ := some_k hk
    simp only [horariumref10_Before.l0, List.append_nil, List.map_nil, Hm.bef]
    rw [if_neg (by omega)]
  | cons s suf ih =>
    intro pre k m hok hk hm
    obtain ⟨k, rfl⟩ := some_k (show 0 < k by omega)
    have hs : (tk s).ok := hok.2 s (by simp)
    have hlen := hok.1
    simp only [List.length_append, List.length_cons] at hlen hk
    have i1 : ((pre ++ s :: suf).length : Int) = (pre.length : Int) + ((suf.length : Int) + 1) := by simp
    have i2 := fun m hm => ih (pre ++ [s]) k m (by simpa using hok) (by omega) hm
    simp only [List.append_assoc, List.cons_append, List.nil_append] at i2
    rw [show ((pre ++ [s]).length : Int) = (pre.length : Int) + 1 from by simp] at i2
    obtain ⟨_, _, h2, h3, h4, h5, _, _⟩ := id hs
    have hd : (tk s).d = s.f2 := rfl
    have ht : (tk s).t = s.f3 := rfl
    simp only [horariumref10_Before.l0]
    rw [if_pos (by omega), if_pos (by omega), rd_mid, w64 (n := (pre.length : Int) + 1) (by omega) (by omega)]
    simp only [List.map_cons, Hm.bef]
    by_cases hx : s.f2 < x
    · have hmany : Hm.many (tk s) (x - 1) = (x - 1 - s.f2) / s.f3 + 1 := Hm.many_hi (show (tk s).d ≤ x - 1 by rw [hd]; omega)
      have hp : 0 < Hm.many (tk s) (x - 1) := by
        rw [hmany]; have := Int.ediv_nonneg (show 0 ≤ x - 1 - s.f2 by omega) (show 0 ≤ s.f3 by omega); omega
      have hl := Hm.last_lt (t := tk s) (x := x) (by omega) hp
      have hlast : Hm.last (tk s) x = s.f2 + s.f3 * ((x - 1 - s.f2) / s.f3) := by
        unfold Hm.last; rw [hmany, hd, ht]; congr 2; omega
      have hq := Int.ediv_nonneg (show 0 ≤ x - 1 - s.f2 by omega) (show 0 ≤ s.f3 by omega)
      have hq2 := Int.ediv_le_self s.f3 (show 0 ≤ x - 1 - s.f2 by omega)
      have hmm := Int.mul_nonneg (show 0 ≤ s.f3 by omega) hq
      rw [hlast, hd] at hl
      rw [if_pos hx, if_neg (by omega), w64 (n := x - 1) (by omega) (by omega), w64 (n := x - 1 - s.f2) (by omega) (by omega), Int.tdiv_eq_ediv_of_nonneg (by omega), w64 (n := (x - 1 - s.f2) / s.f3) (by omega) (by omega), w64 (n := s.f3 * ((x - 1 - s.f2) / s.f3)) (by omega) (by omega), w64 (n := s.f2 + s.f3 * ((x - 1 - s.f2) / s.f3)) (by omega) (by omega), if_pos hp, hlast]
      by_cases hc : s.f2 + s.f3 * ((x - 1 - s.f2) / s.f3) > m
      · rw [if_pos hc, if_pos hc, i2 _ (by omega)]
      · rw [if_neg hc, if_neg hc, i2 _ hm]
    · have hz : ¬ 0 < Hm.many (tk s) (x - 1) := by rw [Hm.many_lo (show x - 1 < (tk s).d by rw [hd]; omega)]; omega
      rw [if_neg hx, if_neg hz, i2 _ hm]
theorem rBefore_all (k : Nat) (l : List S28) (x : Int) (hl : l.length ≤ 1000000000000000000) (hk : l.length + 20 < k) : horariumref10_Before.f k l x = some (beforeV l x) := by
  unfold horariumref10_Before.f beforeV
  rw [rrow_all k l hl (by omega), rtime_is]; simp only [Option.bind_some]
  obtain ⟨k, rfl⟩ := some_k (show 0 < k by omega)
  by_cases h : mayB l x = true
  · obtain ⟨h1, h2, h3⟩ := mayB_ok.1 h
    rw [(rowB_ok l).2 h1, decide_eq_true h2, decide_eq_true h3, if_pos h]
    simp only [Bool.and_self, Bool.not_true, if_true, horariumref10_Before.j0, Bool.false_eq_true, if_false]
    have := rbefore_loop h2 h3 l [] k 0 (by simpa using h1) (by omega) (by omega)
    simpa [Hm.before] using this
  · rw [if_neg h]
    unfold mayB at h
    by_cases hr : rowB l = true
    · rw [if_pos hr]
      have : (decide (0 ≤ x) && decide (x ≤ 1099511627776)) = false := by
        rw [hr, Bool.true_and] at h; exact Bool.eq_false_iff.2 h
      rw [this]; simp [horariumref10_Before.j0]
    · rw [if_neg hr]; simp [horariumref10_Before.j0]

/-- Tasks by numbers. -/
def MadeP (r : List S28) : Prop := ∀ i (h : i < r.length), (r[i]).f0 = (i : Int) ∧ 1 ≤ (r[i]).f1 ∧ (r[i]).f1 ≤ (r[i]).f2 ∧ (r[i]).f2 ≤ (r[i]).f3 ∧ (r[i]).f3 ≤ 24 ∧ (r[i]).f4 = 1
theorem mod_rng (a : Int) {m : Int} (h : 1 ≤ m) (hm : m ≤ 24) : 1 ≤ wrap64 (1 + Int.tmod (wrap64 (Int.tmod a m + m)) m) ∧ wrap64 (1 + Int.tmod (wrap64 (Int.tmod a m + m)) m) ≤ m := by
  have h1 : -m < Int.tmod a m ∧ Int.tmod a m < m := by
    rcases Int.le_total 0 a with ha | ha
    · have h2 := Int.tmod_lt_of_pos a (show 0 < m by omega); have h3 := Int.tmod_nonneg m ha; omega
    · have h2 := Int.tmod_lt_of_pos (-a) (show 0 < m by omega); have h3 := Int.tmod_nonneg m (show 0 ≤ -a by omega)
      rw [Int.neg_tmod] at h2 h3; omega
  rw [w64 (n := Int.tmod a m + m) (by omega) (by omega)]
  have h4 := Int.tmod_lt_of_pos (Int.tmod a m + m) (show 0 < m by omega); have h5 := Int.tmod_nonneg m (show 0 ≤ Int.tmod a m + m by omega)
  rw [w64 (by omega) (by omega)]; omega
theorem made_loop (l : List S31) (d : Nat) : ∀ (k i : Nat) (r : List S28), i + d = min l.length 8 → d < k → r.length = i → MadeP r →
    ∃ r', horariumlaw10_made.l0 k l r (i : Int) = some r' ∧ r'.length = min l.length 8 ∧ MadeP r' := by
  induction d with
  | zero =>
    intro k i r hd hk hr hm
    obtain ⟨k, rfl⟩ := some_k hk
    refine ⟨r, ?_, by omega, hm⟩
    simp only [horariumlaw10_made.l0]
    by_cases h : (i : Int) < (l.length : Int)
    · rw [if_pos h, if_neg (by omega)]
    · rw [if_neg h]
  | succ d ih =>
    intro k i r hd hk hr hm
    obtain ⟨k, rfl⟩ := some_k (show 0 < k by omega)
    simp only [horariumlaw10_made.l0]
    rw [if_pos (by omega), if_pos (by omega), if_pos (by omega)]
    have hT := mod_rng (rd_T31 l (i : Int)).f2 (m := 24) (by omega) (by omega)
    generalize wrap64 (1 + Int.tmod (wrap64 (Int.tmod (rd_T31 l (i : Int)).f2 24 + 24)) 24) = T at hT ⊢
    rw [if_neg (by omega)]
    have hD := mod_rng (rd_T31 l (i : Int)).f1 (m := T) (by omega) (by omega)
    generalize wrap64 (1 + Int.tmod (wrap64 (Int.tmod (rd_T31 l (i : Int)).f1 T + T)) T) = D at hD ⊢
    rw [if_neg (by omega), if_pos (by omega)]
    have hC := mod_rng (rd_T31 l (i : Int)).f0 (m := D) (by omega) (by omega)
    generalize wrap64 (1 + Int.tmod (wrap64 (Int.tmod (rd_T31 l (i : Int)).f0 D + D)) D) = C at hC ⊢
    rw [w64 (n := (i : Int) + 1) (by omega) (by omega)]
    have e : ((i : Int) + 1) = ((i + 1 : Nat) : Int) := by omega
    rw [e]
    refine ih k (i + 1) _ (by omega) (by omega) (by simp [hr]) ?_
    intro j hj
    by_cases h : j < r.length
    · rw [List.getElem_append_left h]; exact hm j h
    · have hj2 : j = r.length := by simp at hj; omega
      subst hj2
      rw [List.getElem_append_right (by omega)]
      simp only [Nat.sub_self, List.getElem_cons_zero]
      exact ⟨by omega, by omega, by omega, by omega, by omega, trivial⟩
theorem made_is (l : List S31) (k : Nat) (hk : 8 < k) : ∃ r, horariumlaw10_made.f k l = some r ∧ r.length = min l.length 8 ∧ MadeP r := by
  unfold horariumlaw10_made.f
  exact made_loop l (min l.length 8) k 0 [] (by omega) (by omega) rfl (fun i h => by simp at h)
theorem MadeP.okL {r : List S28} (h : MadeP r) (hl : r.length ≤ 16) : okL r := by
  refine ⟨hl, fun s hs => ?_⟩
  obtain ⟨i, hi, rfl⟩ := List.getElem_of_mem hs
  have := h i hi
  unfold Hm.Tk.ok tk
  simp only
  omega
theorem rd_at {r : List S28} {i : Nat} (hi : i < r.length) : rd_T28 r (i : Int) = r[i] := by
  simp [rd_T28, hi]

theorem awake_is : ∀ k, 20 ≤ k → horariumlaw10_awake.f k = some true := by
  have h : horariumlaw10_awake.f 20 = some true := by decide +kernel
  intro k hk
  exact at_rounds (horariumlaw10_awake.mono) hk h

theorem tells_loop (l : List S28) (x : Int) (hl : l.length ≤ 1000000) (a : Int) (b : Bool) (c : Int) (e : Bool) (suf : List S28) : ∀ (pre : List S28) (k : Nat), l = pre ++ suf → suf.length + 1000100 < k →
    horariumlaw10_tells.l0 k l x a b a b c e c e (pre.length : Int) = some true := by
  induction suf with
  | nil =>
    intro pre k h hk
    obtain ⟨k, rfl⟩ := some_k (show 0 < k by omega)
    have e' : l.length = pre.length := by rw [h]; simp
    simp only [horariumlaw10_tells.l0]
    rw [if_neg (by omega), Of_all k l x (by omega), rOf_all k l x (by omega) (by omega)]
    simp
  | cons s suf ih =>
    intro pre k h hk
    obtain ⟨k, rfl⟩ := some_k (show 0 < k by omega)
    have i1 : (l.length : Int) = (pre.length : Int) + ((suf.length : Int) + 1) := by rw [h]; simp
    have i2 := ih (pre ++ [s]) k (by simpa using h) (by simp at hk; omega)
    rw [show ((pre ++ [s]).length : Int) = (pre.length : Int) + 1 from by simp] at i2
    simp only [horariumlaw10_tells.l0]
    rw [if_pos (by omega), if_pos (by omega), show rd_T28 l (pre.length : Int) = s from by rw [h, rd_mid], One_all k s x (by omega), rOne_all]
    simp only [Option.bind_some, if_true]
    rw [w64 (by omega) (by omega)]
    exact i2
theorem tells_is (k : Nat) (l : List S28) (x : Int) (hl : l.length ≤ 1000000) (hk : l.length + 1001100 < k) : horariumlaw10_tells.f k l x = some true := by
  unfold horariumlaw10_tells.f
  rw [Next_all k l x (by omega), rNext_all k l x (by omega) (by omega), Before_all k l x (by omega), rBefore_all k l x (by omega) (by omega)]
  simp only [Option.bind_some]
  exact tells_loop l x hl _ _ _ _ l [] k (by simp) (by omega)
theorem few_is (l : List S28) : ∃ r, horariumlaw10_few.f l = some r ∧ r.length ≤ 5 := by
  unfold horariumlaw10_few.f
  by_cases h : (l.length : Int) > 5
  · rw [if_pos h, if_pos (by omega)]; exact ⟨_, rfl, by simp; omega⟩
  · rw [if_neg h]; exact ⟨_, rfl, by omega⟩
theorem DemandTells : horariumlaw10_DemandTells.Pure := by
  intro raw l x _ _ _ _ _
  obtain ⟨t, hr, hl, hm⟩ := made_is l 2000000 (by omega)
  obtain ⟨r, hr2, hl2⟩ := few_is raw
  refine ⟨2000000, ?_⟩
  unfold horariumlaw10_DemandTells.f
  rw [awake_is 2000000 (by omega), hr2, hr]
  simp only [Option.bind_some, if_true]
  rw [tells_is 2000000 r x (by omega) (by omega)]
  simp only [Option.bind_some, if_true]
  rw [tells_is 2000000 t x (by omega) (by omega)]
  simp only [Option.bind_some, if_true]
  rw [tells_is 2000000 t _ (by omega) (by omega)]
  rfl
end Go.Proofs.Ytaifojmlbbaabaa.Pure
