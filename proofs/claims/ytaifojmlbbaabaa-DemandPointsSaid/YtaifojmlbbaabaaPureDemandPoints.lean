/- DemandPoints, the plain part: the deadlines in a row, and the first time of too much work, are those of the document. -/
import Derived.Test.YtaifojmlbbaabaaPDemandPointsx6
import Derived.Test.YtaifojmlbbaabaaMRangeX
import Derived.Test.YtaifojmlbbaabaaMDem
import Derived.Test.YtaifojmlbbaabaaMDead

namespace Go.Proofs.Ytaifojmlbbaabaa.Pure
open Go.RowKit Go.Proofs.Ytaifojmlbbaabaa.PDemandPoints Go.Proofs.YtaifojmlbbaabaaW.PrintWords Go.Proofs.YtaifojmlbbaabaaW.PrintLast Go.Proofs.YtaifojmlbbaabaaW.PrintMore
set_option linter.unusedVariables false
set_option linter.unusedSimpArgs false

theorem rcheck_is (s : S28) : horariumref09_Check.f s.f0 s.f1 s.f2 s.f3 s.f4 = some (taskB s) := by
  have e : taskB s = true ↔ (tk s).ok := taskB_ok s
  unfold Hm.Tk.ok tk at e
  simp only at e
  unfold horariumref09_Check.f
  by_cases h : taskB s = true
  · obtain ⟨h1, h2, h3, h4, h5, h6, h7, h8⟩ := e.1 h
    rw [h, if_pos (by omega), if_pos (by omega), if_pos (by omega), if_pos (by omega), if_pos (by omega), if_pos (by omega), if_pos (by omega), decide_eq_true h8]
  · have hf : taskB s = false := Bool.eq_false_iff.2 h
    rw [hf]
    repeat' split
    all_goals first | rfl | skip
    all_goals (congr 1; rw [decide_eq_false_iff_not]; intro h8; exact h (e.2 ⟨by omega, by omega, by omega, by omega, by omega, by omega, by omega, h8⟩))

theorem rrowall_loop (suf : List S28) : ∀ (pre : List S28) (k : Nat), (pre ++ suf).length ≤ 1000000000000000000 → suf.length < k → horariumref09_Row.l0 k (pre ++ suf) (pre.length : Int) = some (suf.all taskB && decide ((pre ++ suf).length ≤ 16)) := by
  induction suf with
  | nil =>
    intro pre k hlen hk
    obtain ⟨k, rfl⟩ := some_k hk
    simp only [horariumref09_Row.l0, List.append_nil] at hlen ⊢
    rw [if_neg (by omega)]
    simp only [List.all_nil, Bool.true_and]
    congr 1
    by_cases h : pre.length ≤ 16
    · rw [decide_eq_true h, decide_eq_true (by omega)]
    · rw [decide_eq_false h, decide_eq_false (by omega)]
  | cons s suf ih =>
    intro pre k hlen hk
    obtain ⟨k, rfl⟩ := some_k (show 0 < k by omega)
    have i1 : ((pre ++ s :: suf).length : Int) = (pre.length : Int) + ((suf.length : Int) + 1) := by simp
    have i2 := ih (pre ++ [s]) k (by simpa using hlen) (by simp at hk; omega)
    simp only [List.append_assoc, List.cons_append, List.nil_append] at i2
    rw [show ((pre ++ [s]).length : Int) = (pre.length : Int) + 1 from by simp] at i2
    simp only [horariumref09_Row.l0]
    rw [if_pos (by omega), if_pos (by omega), rd_mid, rcheck_is]
    simp only [Option.bind_some, List.all_cons]
    cases taskB s with
    | false => rfl
    | true =>
      simp only [if_true, Bool.true_and]
      rw [w64 (by omega) (by omega)]
      exact i2
theorem rrow_all (k : Nat) (l : List S28) (hl : l.length ≤ 1000000000000000000) (hk : l.length < k) : horariumref09_Row.f k l = some (rowB l) := by
  have := rrowall_loop l [] k (by simpa using hl) hk
  unfold horariumref09_Row.f rowB
  rw [Bool.and_comm]
  exact this

theorem rtime_is (x : Int) : horariumref10_time.f x = some (decide (0 ≤ x) && decide (x ≤ 1099511627776)) := by
  unfold horariumref10_time.f
  by_cases h : 0 ≤ x
  · rw [if_pos h, decide_eq_true h]; rfl
  · rw [if_neg h, decide_eq_false h]; rfl

theorem rnext_is {s : S28} {x : Int} (h : (tk s).ok) (h0 : 0 ≤ x) (h1 : x ≤ 1099511627776) : horariumref10_next.f s.f0 s.f1 s.f2 s.f3 s.f4 x = some (Hm.due (tk s) x) := by
  have hd := Hm.due_le h h0
  have hg := Hm.due_gt (t := tk s) (x := x) (by obtain ⟨_, _, _, _, _, _, _, _⟩ := h; omega)
  obtain ⟨_, _, h2, h3, h4, h5, _, _⟩ := h
  simp only [tk] at h2 h3 h4 h5
  unfold horariumref10_next.f
  have e : Hm.due (tk s) x = s.f2 + s.f3 * Hm.many (tk s) x := rfl
  by_cases hx : x < s.f2
  · rw [if_pos hx, e, Hm.many_lo (show x < (tk s).d from hx)]; simp
  · have hm : Hm.many (tk s) x = (x - s.f2) / s.f3 + 1 := Hm.many_hi (show (tk s).d ≤ x by show s.f2 ≤ x; omega)
    rw [e, hm] at hd hg
    have ht : (tk s).t = s.f3 := rfl
    rw [ht] at hd
    have hq := Int.ediv_nonneg (show 0 ≤ x - s.f2 by omega) (show 0 ≤ s.f3 by omega)
    have hq2 := Int.ediv_le_self s.f3 (show 0 ≤ x - s.f2 by omega)
    have hmm := Int.mul_nonneg (show 0 ≤ s.f3 by omega) (show 0 ≤ (x - s.f2) / s.f3 + 1 by omega)
    rw [if_neg hx, if_neg (by omega), w64 (n := x - s.f2) (by omega) (by omega), Int.tdiv_eq_ediv_of_nonneg (by omega), w64 (n := (x - s.f2) / s.f3) (by omega) (by omega), w64 (n := (x - s.f2) / s.f3 + 1) (by omega) (by omega), w64 (n := s.f3 * ((x - s.f2) / s.f3 + 1)) (by omega) (by omega), w64 (by omega) (by omega), e, hm]
theorem rnext_loop {x : Int} (h0 : 0 ≤ x) (h1 : x ≤ 1099511627776) (suf : List S28) : ∀ (pre : List S28) (k : Nat) (m : Int), okL (pre ++ suf) → suf.length < k →
    horariumref10_Next.l0 k (pre ++ suf) x m (pre.length : Int) = some (if Hm.minL m (suf.map fun s => Hm.due (tk s) x) > 1099511627776 then (0, false) else (Hm.minL m (suf.map fun s => Hm.due (tk s) x), true)) := by
  induction suf with
  | nil =>
    intro pre k m _ hk
    obtain ⟨k, rfl⟩ := some_k hk
    simp only [horariumref10_Next.l0, List.append_nil, List.map_nil, Hm.minL]
    rw [if_neg (by omega)]
    split <;> rfl
  | cons s suf ih =>
    intro pre k m hok hk
    obtain ⟨k, rfl⟩ := some_k (show 0 < k by omega)
    have hs : (tk s).ok := hok.2 s (by simp)
    have hlen := hok.1
    simp only [List.length_append, List.length_cons] at hlen hk
    have i1 : ((pre ++ s :: suf).length : Int) = (pre.length : Int) + ((suf.length : Int) + 1) := by simp
    have i2 := fun m => ih (pre ++ [s]) k m (by simpa using hok) (by omega)
    simp only [List.append_assoc, List.cons_append, List.nil_append] at i2
    rw [show ((pre ++ [s]).length : Int) = (pre.length : Int) + 1 from by simp] at i2
    simp only [horariumref10_Next.l0]
    rw [if_pos (by omega), if_pos (by omega), rd_mid, rnext_is hs h0 h1]
    simp only [Option.bind_some]
    rw [w64 (n := (pre.length : Int) + 1) (by omega) (by omega), i2, i2]
    simp only [List.map_cons, Hm.minL]
    by_cases hd : Hm.due (tk s) x < m
    · simp only [hd, if_true]
    · simp only [hd, if_false]
theorem rNext_all (k : Nat) (l : List S28) (x : Int) (hl : l.length ≤ 1000000000000000000) (hk : l.length + 20 < k) : horariumref10_Next.f k l x = some (nextV l x) := by
  unfold horariumref10_Next.f
  rw [rrow_all k l hl (by omega), rtime_is]; simp only [Option.bind_some]
  obtain ⟨k, rfl⟩ := some_k (show 0 < k by omega)
  by_cases h : mayB l x = true
  · obtain ⟨h1, h2, h3⟩ := mayB_ok.1 h
    have hr : rowB l = true := (rowB_ok l).2 h1
    rw [hr, decide_eq_true h2, decide_eq_true h3]
    simp only [Bool.and_self, if_true, horariumref10_Next.j0]
    match l, h1, h, hk, hl with
    | [], _, _, _, _ => simp [nextV]
    | s :: r, h1, h, hk, hl =>
      have e : nextV (s :: r) x = if Hm.next ((s :: r).map tk) x > 1099511627776 then (0, false) else (Hm.next ((s :: r).map tk) x, true) := by
        unfold nextV
        by_cases hg : Hm.next ((s :: r).map tk) x > 1099511627776
        · simp only [h, hg]; simp
        · simp only [h, hg]; simp
      have hs := h1.2 s (by simp)
      rw [if_neg (by simp; try omega), if_pos (by simp; try omega)]
      rw [show rd_T28 (s :: r) 0 = s from by simp [rd_T28], rnext_is hs h2 h3]
      simp only [Option.bind_some]
      have hz := rnext_loop h2 h3 r [s] k (Hm.due (tk s) x) (by simpa using h1) (by simp at hk; omega)
      simp only [List.cons_append, List.nil_append, List.length_singleton] at hz
      rw [show ((1 : Nat) : Int) = 1 from rfl] at hz
      rw [hz, e]
      have en : Hm.next ((s :: r).map tk) x = Hm.minL (Hm.due (tk s) x) (r.map fun s => Hm.due (tk s) x) := by
        simp only [List.map_cons, Hm.next, Hm.minL, List.map_map]
        rw [if_neg (by omega)]; rfl
      rw [en]
  · have e : nextV l x = (0, false) := by unfold nextV; simp [Bool.eq_false_iff.2 h]
    rw [e]
    unfold mayB at h
    by_cases hr : rowB l = true
    · rw [if_pos hr]
      have : (decide (0 ≤ x) && decide (x ≤ 1099511627776)) = false := by
        rw [hr, Bool.true_and] at h; exact Bool.eq_false_iff.2 h
      rw [this]; simp [horariumref10_Next.j0]
    · rw [if_neg hr]; simp [horariumref10_Next.j0]

theorem check_yes {s : S28} (h : (tk s).ok) : horariumref09_Check.f s.f0 s.f1 s.f2 s.f3 s.f4 = some true := by
  obtain ⟨h1, h2, h3, h4, h5, h6, h7, h8⟩ := h
  simp only [tk] at h1 h2 h3 h4 h5 h6 h7 h8
  unfold horariumref09_Check.f
  rw [if_pos (by omega), if_pos (by omega), if_pos (by omega), if_pos (by omega), if_pos (by omega), if_pos (by omega), if_pos (by omega), decide_eq_true h8]
theorem rOne_yes {s : S28} {x : Int} (h : (tk s).ok) (h0 : 0 ≤ x) (h1 : x ≤ 1099511627776) : horariumref10_One.f s.f0 s.f1 s.f2 s.f3 s.f4 x = some (s.f1 * Hm.many (tk s) x) := by
  unfold horariumref10_One.f horariumref10_time.f
  rw [check_yes h, if_pos (by omega), decide_eq_true (by omega)]
  simp only [Option.bind_some, if_true]
  have hw := Hm.work_le h h0
  obtain ⟨_, _, h2, h3, h4, h5, _, _⟩ := h
  simp only [tk] at h2 h3 h4 h5
  by_cases hx : x < s.f2
  · rw [if_pos hx, Hm.many_lo (show x < (tk s).d from hx), Int.mul_zero]
  · have hm : Hm.many (tk s) x = (x - s.f2) / s.f3 + 1 := Hm.many_hi (show (tk s).d ≤ x by show s.f2 ≤ x; omega)
    have hc : (tk s).c = s.f1 := rfl
    rw [hc, hm] at hw
    have hq := Int.ediv_nonneg (show 0 ≤ x - s.f2 by omega) (show 0 ≤ s.f3 by omega)
    have hq2 := Int.ediv_le_self s.f3 (show 0 ≤ x - s.f2 by omega)
    rw [if_neg hx, if_neg (by omega), w64 (n := x - s.f2) (by omega) (by omega), Int.tdiv_eq_ediv_of_nonneg (by omega), w64 (n := (x - s.f2) / s.f3) (by omega) (by omega), w64 (n := (x - s.f2) / s.f3 + 1) (by omega) (by omega), w64 (by omega) (by omega), hm]

theorem rone_no {s : S28} {x : Int} (h : ¬ ((tk s).ok ∧ 0 ≤ x ∧ x ≤ 1099511627776)) : horariumref10_One.f s.f0 s.f1 s.f2 s.f3 s.f4 x = some 0 := by
  unfold horariumref10_One.f
  rw [rcheck_is, rtime_is]
  simp only [Option.bind_some]
  by_cases h1 : taskB s = true
  · rw [if_pos h1, if_neg]
    intro h2
    simp only [Bool.and_eq_true, decide_eq_true_eq] at h2
    exact h ⟨(taskB_ok s).1 h1, h2⟩
  · rw [if_neg h1]
theorem rof_loop {x : Int} (h0 : 0 ≤ x) (h1 : x ≤ 1099511627776) (suf : List S28) : ∀ (pre : List S28) (k : Nat) (acc : Int), okL (pre ++ suf) → suf.length < k → 0 ≤ acc → acc ≤ (pre.length : Int) * 2000000000000 →
    horariumref10_Of.l0 k (pre ++ suf) x true acc (pre.length : Int) = some (acc + Hm.of (suf.map tk) x) := by
  induction suf with
  | nil =>
    intro pre k acc _ hk _ _
    obtain ⟨k, rfl⟩ := some_k hk
    simp only [horariumref10_Of.l0, List.append_nil, List.map_nil, Hm.of]
    rw [if_neg (by omega)]; simp
  | cons s suf ih =>
    intro pre k acc hok hk ha hb
    obtain ⟨k, rfl⟩ := some_k (show 0 < k by omega)
    have hs : (tk s).ok := hok.2 s (by simp)
    have hw := Hm.work_le hs h0
    have hlen := hok.1
    simp only [List.length_append, List.length_cons] at hlen hk
    have hc : (tk s).c = s.f1 := rfl
    rw [hc] at hw
    have i1 : ((pre ++ s :: suf).length : Int) = (pre.length : Int) + ((suf.length : Int) + 1) := by simp
    have i2 := ih (pre ++ [s]) k (acc + s.f1 * Hm.many (tk s) x) (by simpa using hok) (by omega) (by omega) (by simp only [List.length_append, List.length_singleton]; omega)
    simp only [List.append_assoc, List.cons_append, List.nil_append] at i2
    rw [show ((pre ++ [s]).length : Int) = (pre.length : Int) + 1 from by simp] at i2
    simp only [horariumref10_Of.l0]
    rw [if_pos (by omega), if_pos trivial, if_pos (by omega), rd_mid, rOne_yes hs h0 h1]
    simp only [Option.bind_some]
    rw [w64 (n := acc + s.f1 * Hm.many (tk s) x) (by omega) (by omega), w64 (n := (pre.length : Int) + 1) (by omega) (by omega), i2]
    simp only [List.map_cons, Hm.of, hc]
    congr 1; omega
theorem rof_zero {l : List S28} {x : Int} (hx : ¬ (0 ≤ x ∧ x ≤ 1099511627776)) (suf : List S28) : ∀ (pre : List S28) (k : Nat), l = pre ++ suf → l.length ≤ 1000000000000000000 → suf.length < k →
    horariumref10_Of.l0 k l x true 0 (pre.length : Int) = some 0 := by
  induction suf with
  | nil =>
    intro pre k e hl hk
    obtain ⟨k, rfl⟩ := some_k hk
    have e' : l.length = pre.length := by rw [e]; simp
    simp only [horariumref10_Of.l0]
    rw [if_neg (by omega)]
  | cons s suf ih =>
    intro pre k e hl hk
    obtain ⟨k, rfl⟩ := some_k (show 0 < k by omega)
    have i1 : (l.length : Int) = (pre.length : Int) + ((suf.length : Int) + 1) := by rw [e]; simp
    have i2 := ih (pre ++ [s]) k (by simpa using e) hl (by simp at hk; omega)
    rw [show ((pre ++ [s]).length : Int) = (pre.length : Int) + 1 from by simp] at i2
    simp only [horariumref10_Of.l0]
    rw [if_pos (by omega), if_pos trivial, if_pos (by omega), show rd_T28 l (pre.length : Int) = s from by rw [e, rd_mid], rone_no (fun h => hx h.2)]
    simp only [Option.bind_some]
    rw [w64 (n := 0 + 0) (by omega) (by omega), w64 (n := (pre.length : Int) + 1) (by omega) (by omega)]
    exact i2
theorem rOf_all (k : Nat) (l : List S28) (x : Int) (hl : l.length ≤ 1000000000000000000) (hk : l.length + 20 < k) : horariumref10_Of.f k l x = some (ofV l x) := by
  unfold horariumref10_Of.f ofV
  rw [rrow_all k l hl (by omega)]; simp only [Option.bind_some]
  by_cases hr : rowB l = true
  · have hok := (rowB_ok l).1 hr
    rw [hr]
    by_cases hx : 0 ≤ x ∧ x ≤ 1099511627776
    · rw [if_pos (mayB_ok.2 ⟨hok, hx.1, hx.2⟩)]
      have := rof_loop hx.1 hx.2 l [] k 0 (by simpa using hok) (by omega) (by omega) (by simp)
      simpa using this
    · rw [if_neg (fun h => hx (mayB_ok.1 h).2)]
      exact rof_zero hx l [] k (by simp) hl (by omega)
  · rw [if_neg (fun h => hr ((rowB_ok l).2 (mayB_ok.1 h).1)), Bool.eq_false_iff.2 hr]
    obtain ⟨k, rfl⟩ := some_k (show 0 < k by omega)
    simp only [horariumref10_Of.l0]
    split
    · rfl
    · rfl

theorem rpoints_loop {l : List S28} (hl : l.length ≤ 1000000) (most : Int) : ∀ (c k : Nat) (out : List Int) (x : Int), out.length + c = 4096 → c + c + 1000100 < k →
    horariumref10_Points.l0 k l most true out x = some (out ++ pointsL l most c (nextV l x)) := by
  intro c
  induction c with
  | zero =>
    intro k out x hc hk
    obtain ⟨k, rfl⟩ := some_k (show 0 < k by omega)
    obtain ⟨k, rfl⟩ := some_k (show 0 < k by omega)
    simp only [horariumref10_Points.l0, if_true]
    rw [decide_eq_false (by omega)]
    simp [horariumref10_Points.j1, pointsL]
  | succ c ih =>
    intro k out x hc hk
    obtain ⟨k, rfl⟩ := some_k (show 0 < k by omega)
    obtain ⟨k, rfl⟩ := some_k (show 0 < k by omega)
    simp only [horariumref10_Points.l0, if_true]
    rw [decide_eq_true (by omega)]
    simp only [horariumref10_Points.j1, if_true]
    rw [rNext_all k l x (by omega) (by omega)]
    simp only [Option.bind_some]
    generalize nextV l x = p
    obtain ⟨y, b⟩ := p
    cases b with
    | false => simp [pointsL]
    | true =>
      simp only [if_true]
      by_cases hy : y > most
      · rw [if_pos hy]
        have : ¬ y ≤ most := by omega
        simp [pointsL, this]
      · rw [if_neg hy, if_pos (by omega), ih k (out ++ [y]) y (by simp; omega) (by omega)]
        have : y ≤ most := by omega
        simp [pointsL, this]
theorem rPoints_all (k : Nat) (l : List S28) (most : Int) (hl : l.length ≤ 1000000) (hk : 1010000 < k) : horariumref10_Points.f k l most = some (if mayB l most = true then pointsL l most 4096 (nextV l 0) else []) := by
  unfold horariumref10_Points.f
  rw [rtime_is]; simp only [Option.bind_some]
  by_cases ht : (decide (0 ≤ most) && decide (most ≤ 1099511627776)) = true
  · rw [ht, rpoints_loop hl most 4096 k [] 0 (by simp) (by omega)]
    by_cases h : mayB l most = true
    · rw [if_pos h]; simp
    · rw [if_neg h]
      have hr : rowB l = false := by
        unfold mayB at h; rw [ht, Bool.and_true] at h; exact Bool.eq_false_iff.2 h
      have : nextV l 0 = (0, false) := by unfold nextV mayB; rw [hr]; simp
      rw [this]; rfl
  · rw [Bool.eq_false_iff.2 ht]
    have h : ¬ mayB l most = true := fun h => ht (by
      obtain ⟨_, h2, h3⟩ := mayB_ok.1 h; simp [h2, h3])
    rw [if_neg h]
    obtain ⟨k, rfl⟩ := some_k (show 0 < k by omega)
    obtain ⟨k, rfl⟩ := some_k (show 0 < k by omega)
    simp [horariumref10_Points.l0, horariumref10_Points.j1]
theorem nextV_gt {l : List S28} {x : Int} (h : (nextV l x).2 = true) : x < (nextV l x).1 := by
  unfold nextV at h ⊢
  by_cases hc : (mayB l x && !l.isEmpty && !decide (Hm.next (l.map tk) x > 1099511627776)) = true
  · rw [if_pos hc]
    simp only [Bool.and_eq_true] at hc
    have hne : l ≠ [] := by have := hc.1.2; simpa using this
    exact Hm.next_gt (by simpa using hne) (okL_map (mayB_ok.1 hc.1.1).1) x
  · rw [if_neg hc] at h; cases h
theorem pointsL_pos (l : List S28) (most : Int) : ∀ (c : Nat) (p : Int × Bool), (p.2 = true → 0 < p.1) → ∀ x ∈ pointsL l most c p, 0 < x := by
  intro c
  induction c with
  | zero => intro p _ x hx; cases hx
  | succ c ih =>
    intro p hp x hx
    unfold pointsL at hx
    by_cases h : (p.2 && decide (p.1 ≤ most)) = true
    · rw [if_pos h] at hx
      have h0 := hp (by simp only [Bool.and_eq_true] at h; exact h.1)
      rcases List.mem_cons.1 hx with rfl | hx
      · exact h0
      · exact ih (nextV l p.1) (fun h2 => by have := nextV_gt h2; omega) x hx
    · rw [if_neg h] at hx; cases hx
theorem rfirst_loop {l : List S28} (hl : l.length ≤ 1000000) (suf : List Int) : ∀ (pre : List Int) (k : Nat), (pre ++ suf).length ≤ 1000000 → suf.length + 1000100 < k → (∀ x ∈ suf, 0 < x) →
    horariumref10_First.l0 k l (pre ++ suf) (pre.length : Int) = some (firstL l suf, decide (firstL l suf > 0)) := by
  induction suf with
  | nil =>
    intro pre k hlen hk _
    obtain ⟨k, rfl⟩ := some_k (show 0 < k by omega)
    simp only [horariumref10_First.l0, List.append_nil]
    rw [if_neg (by omega)]; rfl
  | cons s suf ih =>
    intro pre k hlen hk hpos
    obtain ⟨k, rfl⟩ := some_k (show 0 < k by omega)
    have i1 : ((pre ++ s :: suf).length : Int) = (pre.length : Int) + ((suf.length : Int) + 1) := by simp
    have i2 := ih (pre ++ [s]) k (by simpa using hlen) (by simp at hk; omega) (fun x hx => hpos x (by simp [hx]))
    simp only [List.append_assoc, List.cons_append, List.nil_append] at i2
    rw [show ((pre ++ [s]).length : Int) = (pre.length : Int) + 1 from by simp] at i2
    have hp := hpos s (by simp)
    simp only [horariumref10_First.l0]
    rw [if_pos (by omega), if_pos (by omega), rd_midI, rOf_all k l s (by omega) (by omega)]
    simp only [Option.bind_some]
    simp only [List.length_append, List.length_cons] at hlen
    by_cases h : ofV l s > s
    · rw [if_pos h]
      have e : firstL l (s :: suf) = s := by show (if ofV l s > s then s else _) = s; rw [if_pos h]
      rw [e, decide_eq_true hp]
    · rw [if_neg h, w64 (by omega) (by omega), i2]
      have e : firstL l (s :: suf) = firstL l suf := by show (if ofV l s > s then s else _) = _; rw [if_neg h]
      rw [e]
theorem pointsL_le (l0 : List S28) (most : Int) : ∀ c p, (pointsL l0 most c p).length ≤ c
  | 0, _ => by simp [pointsL]
  | c + 1, p => by
    unfold pointsL
    split
    · have := pointsL_le l0 most c (nextV l0 p.1); simp only [List.length_cons]; omega
    · simp
theorem rFirst_all (k : Nat) (l : List S28) (most : Int) (hl : l.length ≤ 1000000) (hk : 1010000 < k) : horariumref10_First.f k l most = demand_First.f l most := by
  unfold horariumref10_First.f demand_First.f
  rw [rPoints_all k l most hl hk]; simp only [Option.bind_some]
  by_cases h : mayB l most = true
  · rw [if_pos h, if_pos h]
    have hlen := pointsL_le l most 4096 (nextV l 0)
    exact rfirst_loop hl (pointsL l most 4096 (nextV l 0)) [] k (by simp only [List.nil_append]; omega) (by omega) (pointsL_pos l most 4096 (nextV l 0) (fun h => nextV_gt h))
  · rw [if_neg h, if_neg h]
    exact rfirst_loop hl [] [] k (by simp) (by simp; omega) (by simp)

theorem rsame_loop (l : List Int) (hl : l.length ≤ 1000000000000000000) (d : Nat) : ∀ (k i : Nat), i + d = l.length → d < k → horariumref10_Same.l0 k l l (i : Int) = some true := by
  induction d with
  | zero =>
    intro k i hd hk
    obtain ⟨k, rfl⟩ := some_k (show 0 < k by omega)
    simp only [horariumref10_Same.l0]
    rw [if_neg (by omega)]
  | succ d ih =>
    intro k i hd hk
    obtain ⟨k, rfl⟩ := some_k (show 0 < k by omega)
    simp only [horariumref10_Same.l0]
    rw [if_pos (by omega), if_pos (by omega), if_pos (by omega), if_pos trivial, w64 (by omega) (by omega), show (i : Int) + 1 = ((i + 1 : Nat) : Int) by omega]
    exact ih k (i + 1) (by omega) (by omega)
theorem rSame_self (l : List Int) (k : Nat) (hl : l.length ≤ 1000000000000000000) (hk : l.length < k) : horariumref10_Same.f k l l = some true := by
  unfold horariumref10_Same.f
  rw [if_pos rfl]
  exact rsame_loop l hl l.length k 0 (by omega) hk

/-- Tasks by numbers. -/
def MadeP (r : List S28) : Prop := ∀ i (h : i < r.length), (r[i]).f0 = (i : Int) ∧ 1 ≤ (r[i]).f1 ∧ (r[i]).f1 ≤ (r[i]).f2 ∧ (r[i]).f2 ≤ (r[i]).f3 ∧ (r[i]).f3 ≤ 24 ∧ (r[i]).f4 = 1
theorem mod_rng (a : Int) {m : Int} (h : 1 ≤ m) (hm : m ≤ 24) : 1 ≤ wrap64 (1 + Int.tmod (wrap64 (Int.tmod a m + m)) m) ∧ wrap64 (1 + Int.tmod (wrap64 (Int.tmod a m + m)) m) ≤ m := by
  have h1 : -m < Int.tmod a m ∧ Int.tmod a m < m := by
    rcases Int.le_total 0 a with ha | ha
    · have h2 := Int.tmod_lt_of_pos a (show 0 < m by omega); have h3 := Int.tmod_nonneg m ha; omega
    · have h2 := Int.tmod_lt_of_pos (-a) (show 0 < m by omega); have h3 := Int.tmod_nonneg m (show 0 ≤ -a by omega)
      rw [Int.neg_tmod] at h2 h3; omega
  rw [w64 (n := Int.tmod a m + m) (by omega) (by omega)]
  have h4 := Int.tmod_lt_of_pos (Int.tmod a m + m) (show 0 < m by omega); have h5 := Int.tmod_nonneg m (show 0 ≤ Int.tmod a m + m by omega)
  rw [w64 (by omega) (by omega)]; omega
theorem made_loop (l : List S31) (d : Nat) : ∀ (k i : Nat) (r : List S28), i + d = min l.length 8 → d < k → r.length = i → MadeP r →
    ∃ r', horariumlaw10_made.l0 k l r (i : Int) = some r' ∧ r'.length = min l.length 8 ∧ MadeP r' := by
  induction d with
  | zero =>
    intro k i r hd hk hr hm
    obtain ⟨k, rfl⟩ := some_k hk
    refine ⟨r, ?_, by omega, hm⟩
    simp only [horariumlaw10_made.l0]
    by_cases h : (i : Int) < (l.length : Int)
    · rw [if_pos h, if_neg (by omega)]
    · rw [if_neg h]
  | succ d ih =>
    intro k i r hd hk hr hm
    obtain ⟨k, rfl⟩ := some_k (show 0 < k by omega)
    simp only [horariumlaw10_made.l0]
    rw [if_pos (by omega), if_pos (by omega), if_pos (by omega)]
    have hT := mod_rng (rd_T31 l (i : Int)).f2 (m := 24) (by omega) (by omega)
    generalize wrap64 (1 + Int.tmod (wrap64 (Int.tmod (rd_T31 l (i : Int)).f2 24 + 24)) 24) = T at hT ⊢
    rw [if_neg (by omega)]
    have hD := mod_rng (rd_T31 l (i : Int)).f1 (m := T) (by omega) (by omega)
    generalize wrap64 (1 + Int.tmod (wrap64 (Int.tmod (rd_T31 l (i : Int)).f1 T + T)) T) = D at hD ⊢
    rw [if_neg (by omega), if_pos (by omega)]
    have hC := mod_rng (rd_T31 l (i : Int)).f0 (m := D) (by omega) (by omega)
    generalize wrap64 (1 + Int.tmod (wrap64 (Int.tmod (rd_T31 l (i : Int)).f0 D + D)) D) = C at hC ⊢
    rw [w64 (n := (i : Int) + 1) (by omega) (by omega)]
    have e : ((i : Int) + 1) = ((i + 1 : Nat) : Int) := by omega
    rw [e]
    refine ih k (i + 1) _ (by omega) (by omega) (by simp [hr]) ?_
    intro j hj
    by_cases h : j < r.length
    · rw [List.getElem_append_left h]; exact hm j h
    · have hj2 : j = r.length := by simp at hj; omega
      subst hj2
      rw [List.getElem_append_right (by omega)]
      simp only [Nat.sub_self, List.getElem_cons_zero]
      exact ⟨by omega, by omega, by omega, by omega, by omega, trivial⟩
theorem made_is (l : List S31) (k : Nat) (hk : 8 < k) : ∃ r, horariumlaw10_made.f k l = some r ∧ r.length = min l.length 8 ∧ MadeP r := by
  unfold horariumlaw10_made.f
  exact made_loop l (min l.length 8) k 0 [] (by omega) (by omega) rfl (fun i h => by simp at h)
theorem MadeP.okL {r : List S28} (h : MadeP r) (hl : r.length ≤ 16) : okL r := by
  refine ⟨hl, fun s hs => ?_⟩
  obtain ⟨i, hi, rfl⟩ := List.getElem_of_mem hs
  have := h i hi
  unfold Hm.Tk.ok tk
  simp only
  omega
theorem rd_at {r : List S28} {i : Nat} (hi : i < r.length) : rd_T28 r (i : Int) = r[i] := by
  simp [rd_T28, hi]

theorem awake_is : ∀ k, 20 ≤ k → horariumlaw10_awake.f k = some true := by
  have h : horariumlaw10_awake.f 20 = some true := by decide +kernel
  intro k hk
  exact at_rounds (horariumlaw10_awake.mono) hk h

theorem points_is (k : Nat) (l : List S28) (x : Int) (hl : l.length ≤ 1000000) (hk : 1010000 < k) : horariumlaw10_points.f k l x = some true := by
  unfold horariumlaw10_points.f
  rw [rPoints_all k l x hl hk, rFirst_all k l x hl hk]
  unfold demand_Points.f
  simp only [Option.bind_some]
  have hlen : (if mayB l x = true then pointsL l x 4096 (nextV l 0) else []).length ≤ 4096 := by
    split
    · exact pointsL_le l x 4096 _
    · simp
  rw [rSame_self _ k (by omega) (by omega)]
  unfold demand_First.f
  simp
theorem few_is (l : List S28) : ∃ r, horariumlaw10_few.f l = some r ∧ r.length ≤ 5 := by
  unfold horariumlaw10_few.f
  by_cases h : (l.length : Int) > 5
  · rw [if_pos h, if_pos (by omega)]; exact ⟨_, rfl, by simp; omega⟩
  · rw [if_neg h]; exact ⟨_, rfl, by omega⟩
theorem long_loop {N : Nat} (hN : 1010010 ≤ N) {raw t : List S28} (hraw : raw.length ≤ 1000000000000000000) (ht : t.length ≤ 1000000) (x : Int) : ∀ (d : Nat) (out : List S28) (i k : Nat), i + d = 5 → out.length ≤ i → N + d + d < k →
    horariumlaw10_DemandPoints.l0 k raw x true t out (i : Int) = some true := by
  have fin : ∀ (out : List S28) (i k : Nat), ¬ (i < raw.length ∧ i < 5) → out.length ≤ 5 → 1010002 < k → horariumlaw10_DemandPoints.l0 (k + 1) raw x true t out (i : Int) = some true := by
    intro out i k hi hout hk
    obtain ⟨k, rfl⟩ := some_k (show 0 < k by omega)
    obtain ⟨r, hr, hr5⟩ := few_is raw
    have e : horariumlaw10_DemandPoints.l0 (k + 1 + 1) raw x true t out (i : Int) = horariumlaw10_DemandPoints.j1 (k + 1) raw x true t out (i : Int) false := by
      simp only [horariumlaw10_DemandPoints.l0]
      by_cases h : (i : Int) < (raw.length : Int)
      · rw [if_pos h, decide_eq_false (by omega)]
      · rw [if_neg h]
    rw [e]
    simp only [horariumlaw10_DemandPoints.j1, Bool.false_eq_true, if_false, if_true]
    rw [points_is k t _ ht (by omega)]
    simp only [Option.bind_some, if_true]
    rw [hr]
    simp only [Option.bind_some]
    rw [points_is k r _ (by omega) (by omega)]
    simp only [Option.bind_some, if_true]
    rw [points_is k out _ (by omega) (by omega)]; rfl
  intro d
  induction d with
  | zero =>
    intro out i k hd hout hk
    obtain ⟨k, rfl⟩ := some_k (show 0 < k by omega)
    exact fin out i k (by omega) (by omega) (by omega)
  | succ d ih =>
    intro out i k hd hout hk
    obtain ⟨k, rfl⟩ := some_k (show 0 < k by omega)
    by_cases hi : i < raw.length
    · obtain ⟨k, rfl⟩ := some_k (show 0 < k by omega)
      have e : ((i : Int) + 1) = ((i + 1 : Nat) : Int) := by omega
      simp only [horariumlaw10_DemandPoints.l0]
      rw [if_pos (by omega), decide_eq_true (by omega)]
      simp only [horariumlaw10_DemandPoints.j1, if_true]
      rw [if_pos (by omega), if_pos (by omega), w64 (by omega) (by omega), e]
      split
      · rw [if_pos (by omega)]; exact ih _ (i + 1) k (by omega) (by simp; omega) (by omega)
      · split
        · rw [if_pos (by omega)]; exact ih _ (i + 1) k (by omega) (by simp; omega) (by omega)
        · exact ih _ (i + 1) k (by omega) (by omega) (by omega)
    · exact fin out i k (by omega) (by omega) (by omega)
theorem DemandPoints : horariumlaw10_DemandPoints.Pure := by
  intro raw l x hraw _ _ _ _
  obtain ⟨t, hr, hl, hm⟩ := made_is l 2000000 (by omega)
  obtain ⟨N, K, hN, hK, hK2⟩ : ∃ N K : Nat, 1010010 ≤ N ∧ N + 5 + 5 < K ∧ 2000000 ≤ K := ⟨1010010, 2000000, by omega, by omega, by omega⟩
  have hr := at_rounds (g := fun k => horariumlaw10_made.f k l) (fun k => horariumlaw10_made.mono l k) hK2 hr
  refine ⟨K, ?_⟩
  unfold horariumlaw10_DemandPoints.f
  rw [awake_is K (by omega), hr]
  simp only [Option.bind_some]
  exact long_loop hN (by omega) (by omega) x 5 [] 0 K (by omega) (by simp) hK
end Go.Proofs.Ytaifojmlbbaabaa.Pure
