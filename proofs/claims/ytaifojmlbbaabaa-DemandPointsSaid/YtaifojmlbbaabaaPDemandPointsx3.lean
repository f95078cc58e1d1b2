-- Made by px.py (a program of this session, over the kit's printer) out of the translation. Not trusted: Lean checks it.
import Derived.Test.YtaifojmlbbaabaaPDemandPointsx0
import Derived.Test.YtaifojmlbbaabaaPDemandPointsx1
import Derived.Test.YtaifojmlbbaabaaPDemandPointsx2
namespace Go.Proofs.Ytaifojmlbbaabaa.PDemandPoints
open Go.RowKit Go.Proofs.YtaifojmlbbaabaaW.PrintWords Go.Proofs.YtaifojmlbbaabaaW.PrintLast Go.Proofs.YtaifojmlbbaabaaW.PrintMore
attribute [local go_sem] max2_int min2_int max_two min_two max_three min_three max_four min_four   -- for this text's walks alone
set_option linter.unusedVariables false
set_option linter.unusedSimpArgs false

/-! ### demand_First: function 29 (by hand) -/
theorem w64 {n : Int} (h1 : -9223372036854775808 ≤ n) (h2 : n ≤ 9223372036854775807) : wrap64 n = n := by unfold wrap64; omega
theorem some_k {k : Nat} (h : 0 < k) : ∃ m, k = m + 1 := ⟨k - 1, by omega⟩
theorem tmod_rng (a : Int) {m : Int} (h : 0 < m) : -m < Int.tmod a m ∧ Int.tmod a m < m := by
  rcases Int.le_total 0 a with ha | ha
  · have h2 := Int.tmod_lt_of_pos a h; have h3 := Int.tmod_nonneg m ha; omega
  · have h2 := Int.tmod_lt_of_pos (-a) h; have h3 := Int.tmod_nonneg m (show 0 ≤ -a by omega)
    rw [Int.neg_tmod] at h2 h3; omega
theorem tmod_pos {a m : Int} (h : 0 < m) (ha : 0 ≤ a) : 0 ≤ Int.tmod a m ∧ Int.tmod a m < m := ⟨Int.tmod_nonneg m ha, Int.tmod_lt_of_pos a h⟩
theorem u64 (n : Int) : IntKind.u64.wrap n = n % 18446744073709551616 := by simp [IntKind.wrap, IntKind.bits, IntKind.signed]
theorem u64in {n : Int} (h1 : 0 ≤ n) (h2 : n < 18446744073709551616) : IntKind.u64.wrap n = n := by rw [u64]; omega
def tk (s : S28) : Hm.Tk := ⟨s.f0, s.f1, s.f2, s.f3, s.f4⟩
theorem taskB_ok (s : S28) : taskB s = true ↔ (tk s).ok := by
  unfold taskB Hm.Tk.ok tk
  simp only [Bool.and_eq_true, decide_eq_true_eq]
/-- Tasks may be. -/
def okL (l : List S28) : Prop := l.length ≤ 16 ∧ ∀ s ∈ l, (tk s).ok
theorem row_yes {l : List S28} (h : okL l) : param_Row.f l = some true := by
  unfold param_Row.f
  have h1 : l.all taskB = true := by rw [List.all_eq_true]; intro s hs; exact (taskB_ok s).2 (h.2 s hs)
  rw [h1]; simp [h.1]
theorem row_no {l : List S28} (h : ¬ okL l) : param_Row.f l = some false := by
  unfold param_Row.f
  by_cases h1 : l.length ≤ 16
  · have h2 : l.all taskB = false := by
      rw [Bool.eq_false_iff]; intro h3; rw [List.all_eq_true] at h3
      exact h ⟨h1, fun s hs => (taskB_ok s).1 (h3 s hs)⟩
    rw [h2]; simp
  · simp [h1]
theorem okL_map {l : List S28} (h : okL l) : ∀ t ∈ l.map tk, t.ok := by
  intro t ht; obtain ⟨s, hs, rfl⟩ := List.mem_map.1 ht; exact h.2 s hs
theorem rd_mid (pre : List S28) (s : S28) (suf : List S28) : rd_T28 (pre ++ s :: suf) (pre.length : Int) = s := by
  simp [rd_T28]
theorem may_yes {l : List S28} {x : Int} (h : okL l) (h0 : 0 ≤ x) (h1 : x ≤ 1099511627776) : demand_may.f l x = some true := by
  unfold demand_may.f; rw [row_yes h]; simp only [Option.bind_some, if_true]; rw [if_pos h0]; simp [h1]
theorem may_no {l : List S28} {x : Int} (h : ¬ (okL l ∧ 0 ≤ x ∧ x ≤ 1099511627776)) : demand_may.f l x = some false := by
  unfold demand_may.f
  by_cases hl : okL l
  · rw [row_yes hl]; simp only [Option.bind_some, if_true]
    by_cases h0 : 0 ≤ x
    · rw [if_pos h0]; have : ¬ x ≤ 1099511627776 := fun h1 => h ⟨hl, h0, h1⟩
      simp [this]
    · rw [if_neg h0]
  · rw [row_no hl]; rfl
theorem many_is {s : S28} {x : Int} (h : (tk s).ok) (h0 : -1 ≤ x) (h1 : x ≤ 1099511627777) : demand_many.f s.f0 s.f1 s.f2 s.f3 s.f4 x = some (Hm.many (tk s) x) := by
  obtain ⟨_, _, h2, h3, h4, h5, _, _⟩ := h
  simp only [tk] at h2 h3 h4 h5
  unfold demand_many.f
  by_cases hd : x < s.f2
  · rw [if_pos hd, Hm.many_lo (show x < (tk s).d from hd)]
  · rw [if_neg hd, if_neg (by omega), Hm.many_hi (show (tk s).d ≤ x from Int.not_lt.1 hd)]
    show _ = some ((x - s.f2) / s.f3 + 1)
    have hq := Hm.quo_lo (x - s.f2) (show 0 < s.f3 by omega)
    have hn := Int.ediv_nonneg (show 0 ≤ x - s.f2 by omega) (show 0 ≤ s.f3 by omega)
    have hm : (x - s.f2) / s.f3 ≤ s.f3 * ((x - s.f2) / s.f3) := by
      have := Int.mul_le_mul_of_nonneg_right (show 1 ≤ s.f3 by omega) hn; omega
    rw [w64 (n := x - s.f2) (by omega) (by omega), Int.tdiv_eq_ediv_of_nonneg (by omega), w64 (n := (x - s.f2) / s.f3) (by omega) (by omega), w64 (by omega) (by omega)]
theorem of_loop {x : Int} (h0 : 0 ≤ x) (h1 : x ≤ 1099511627776) (suf : List S28) : ∀ (pre : List S28) (k : Nat) (acc : Int), okL (pre ++ suf) → suf.length < k → 0 ≤ acc → acc ≤ (pre.length : Int) * 2000000000000 →
    demand_Of.l0 k x acc (pre ++ suf) ((pre ++ suf).length : Int) (pre.length : Int) = some (acc + Hm.of (suf.map tk) x) := by
  induction suf with
  | nil =>
    intro pre k acc _ hk _ _
    obtain ⟨k, rfl⟩ := some_k hk
    simp only [demand_Of.l0, List.append_nil, List.map_nil, Hm.of]
    rw [if_neg (by omega)]; simp
  | cons s suf ih =>
    intro pre k acc hok hk ha hb
    obtain ⟨k, rfl⟩ := some_k (show 0 < k by omega)
    have hs : (tk s).ok := hok.2 s (by simp)
    have hw := Hm.work_le hs h0
    have hlen := hok.1
    simp only [List.length_append, List.length_cons] at hlen hk
    have hc : (tk s).c = s.f1 := rfl
    rw [hc] at hw
    have i1 : ((pre ++ s :: suf).length : Int) = (pre.length : Int) + ((suf.length : Int) + 1) := by simp
    have i2 := ih (pre ++ [s]) k (acc + s.f1 * Hm.many (tk s) x) (by simpa using hok) (by omega) (by omega) (by simp only [List.length_append, List.length_singleton]; omega)
    simp only [List.append_assoc, List.cons_append, List.nil_append] at i2
    have i3 : ((pre ++ [s]).length : Int) = (pre.length : Int) + 1 := by simp
    rw [i3] at i2
    simp only [demand_Of.l0]
    rw [if_pos (by omega), if_pos (by omega), if_pos (by omega), rd_mid, many_is hs (by omega) (by omega)]
    simp only [Option.bind_some]
    rw [w64 (n := s.f1 * Hm.many (tk s) x) (by omega) (by omega), w64 (n := acc + s.f1 * Hm.many (tk s) x) (by omega) (by omega), w64 (n := (pre.length : Int) + 1) (by omega) (by omega), i2]
    simp only [List.map_cons, Hm.of, hc]
    congr 1; omega
theorem Of_yes {l : List S28} {x : Int} (k : Nat) (h : okL l) (h0 : 0 ≤ x) (h1 : x ≤ 1099511627776) (hk : 17 ≤ k) : demand_Of.f k l x = some (Hm.of (l.map tk) x) := by
  unfold demand_Of.f
  rw [may_yes h h0 h1]; simp only [Option.bind_some, if_true]
  have := of_loop h0 h1 l [] k 0 (by simpa using h) (by have := h.1; omega) (by omega) (by simp)
  simpa using this
theorem Of_no {l : List S28} {x : Int} (k : Nat) (h : ¬ (okL l ∧ 0 ≤ x ∧ x ≤ 1099511627776)) : demand_Of.f k l x = some 0 := by
  unfold demand_Of.f
  rw [may_no h]; simp only [Option.bind_some]; rfl
theorem rd_midI (pre : List Int) (s : Int) (suf : List Int) : rd (pre ++ s :: suf) (pre.length : Int) = s := by
  simp [rd]
theorem least_loop (suf : List Int) : ∀ (pre : List Int) (k : Nat) (m : Int), (pre ++ suf).length ≤ 1000 → suf.length < k →
    demand_least.l0 k m (pre ++ suf) ((pre ++ suf).length : Int) (pre.length : Int) = some (Hm.minL m suf) := by
  induction suf with
  | nil =>
    intro pre k m _ hk
    obtain ⟨k, rfl⟩ := some_k hk
    simp only [demand_least.l0, List.append_nil, Hm.minL]
    rw [if_neg (by omega)]
  | cons s suf ih =>
    intro pre k m hl hk
    obtain ⟨k, rfl⟩ := some_k (show 0 < k by omega)
    simp only [List.length_append, List.length_cons] at hl hk
    have i1 : ((pre ++ s :: suf).length : Int) = (pre.length : Int) + ((suf.length : Int) + 1) := by simp
    have i2 := ih (pre ++ [s]) k (mn m s) (by simp; omega) (by omega)
    simp only [List.append_assoc, List.cons_append, List.nil_append] at i2
    rw [show ((pre ++ [s]).length : Int) = (pre.length : Int) + 1 from by simp] at i2
    simp only [demand_least.l0]
    rw [if_pos (by omega), if_pos (by omega), if_pos (by omega), rd_midI, w64 (by omega) (by omega)]
    exact i2
theorem least_is (x : Int) (l : List Int) (k : Nat) (hl : l.length ≤ 900) (hk : 1000 ≤ k) : demand_least.f k (x :: l) = some (Hm.minL x (x :: l)) := by
  unfold demand_least.f
  rw [if_pos (by simp only [List.length_cons]; omega)]
  have := least_loop (x :: l) [] k x (by simp only [List.nil_append, List.length_cons]; omega) (by simp only [List.length_cons]; omega)
  simpa [rd] using this
theorem next_loop {x : Int} (h0 : 0 ≤ x) (h1 : x ≤ 1099511627776) (suf : List S28) : ∀ (pre : List S28) (k : Nat), okL (pre ++ suf) → (pre ++ suf) ≠ [] → suf.length + 1001 ≤ k →
    demand_Next.l0 k x (pre.map fun s => Hm.due (tk s) x) (pre ++ suf) ((pre ++ suf).length : Int) (pre.length : Int) =
      some (if Hm.next ((pre ++ suf).map tk) x > 1099511627776 then (0, false) else (Hm.next ((pre ++ suf).map tk) x, true)) := by
  induction suf with
  | nil =>
    intro pre k hok hne hk
    obtain ⟨k, rfl⟩ := some_k (show 0 < k by omega)
    simp only [List.append_nil] at hok hne ⊢
    simp only [demand_Next.l0]
    rw [if_neg (by omega)]
    match pre, hok, hne with
    | s :: r, hok, _ =>
      have hlen := hok.1
      simp only [List.length_cons] at hlen
      rw [List.map_cons, least_is _ _ k (by simp; omega) (by simp at hk; omega)]
      simp only [Option.bind_some]
      have e : Hm.minL (Hm.due (tk s) x) (Hm.due (tk s) x :: r.map fun s => Hm.due (tk s) x) = Hm.next ((s :: r).map tk) x := by
        simp [Hm.next, List.map_map, Function.comp_def]
      rw [e]
      split <;> rfl
  | cons s suf ih =>
    intro pre k hok _ hk
    obtain ⟨k, rfl⟩ := some_k (show 0 < k by omega)
    have hs : (tk s).ok := hok.2 s (by simp)
    have hlen := hok.1
    simp only [List.length_append, List.length_cons] at hlen hk
    have hw := Hm.due_le hs h0
    have hg := Hm.due_gt (t := tk s) (x := x) (by obtain ⟨_, _, _, _, _, _, _, _⟩ := hs; omega)
    have hmn := Hm.many_nonneg (t := tk s) (x := x) (by obtain ⟨_, _, _, _, _, _, _, _⟩ := hs; omega)
    obtain ⟨_, _, h2, h3, h4, h5, _, _⟩ := id hs
    have hd : (tk s).d = s.f2 := rfl
    have ht : (tk s).t = s.f3 := rfl
    have hdue : Hm.due (tk s) x = s.f2 + s.f3 * Hm.many (tk s) x := rfl
    rw [hdue] at hw hg
    rw [hd] at h3 h4; rw [ht] at h4 h5 hw
    have hmm := Int.mul_nonneg (show 0 ≤ s.f3 by omega) hmn
    have i1 : ((pre ++ s :: suf).length : Int) = (pre.length : Int) + ((suf.length : Int) + 1) := by simp
    have i2 := ih (pre ++ [s]) k (by simpa using hok) (by simp) (by omega)
    simp only [List.append_assoc, List.cons_append, List.nil_append, List.map_append, List.map_cons, List.map_nil] at i2
    rw [show ((pre ++ [s]).length : Int) = (pre.length : Int) + 1 from by simp, hdue] at i2
    simp only [demand_Next.l0]
    rw [if_pos (by omega), if_pos (by omega), if_pos (by omega), rd_mid, many_is hs (by omega) (by omega)]
    simp only [Option.bind_some]
    rw [if_pos (by simp; omega), w64 (n := s.f3 * Hm.many (tk s) x) (by omega) (by omega), w64 (n := s.f2 + s.f3 * Hm.many (tk s) x) (by omega) (by omega), w64 (n := (pre.length : Int) + 1) (by omega) (by omega), i2]
    simp
theorem Next_is {l : List S28} {x : Int} (k : Nat) (h : okL l) (hne : l ≠ []) (h0 : 0 ≤ x) (h1 : x ≤ 1099511627776) (hk : 1100 ≤ k) :
    demand_Next.f k l x = some (if Hm.next (l.map tk) x > 1099511627776 then (0, false) else (Hm.next (l.map tk) x, true)) := by
  unfold demand_Next.f
  rw [may_yes h h0 h1]; simp only [Option.bind_some, if_true]
  obtain ⟨k, rfl⟩ := some_k (show 0 < k by omega)
  simp only [demand_Next.j0]
  have hl := h.1
  have hz : ((l.length : Int) == 0) = false := by
    rw [beq_eq_false_iff_ne]; intro e; exact hne (List.length_eq_zero_iff.1 (by omega))
  rw [hz]; simp only [Bool.false_eq_true, if_false]
  have := next_loop h0 h1 l [] k (by simpa using h) (by simpa using hne) (by omega)
  simpa using this
theorem Next_nil {x : Int} (k : Nat) (hk : 1 ≤ k) : demand_Next.f k [] x = some (0, false) := by
  unfold demand_Next.f
  obtain ⟨k, rfl⟩ := some_k (show 0 < k by omega)
  by_cases h : 0 ≤ x ∧ x ≤ 1099511627776
  · rw [may_yes (l := []) ⟨by simp, by simp⟩ h.1 h.2]; simp [demand_Next.j0]
  · rw [may_no (l := []) (fun hh => h hh.2)]; simp [demand_Next.j0]
theorem Next_no {l : List S28} {x : Int} (k : Nat) (h : ¬ (okL l ∧ 0 ≤ x ∧ x ≤ 1099511627776)) (hk : 1 ≤ k) : demand_Next.f k l x = some (0, false) := by
  unfold demand_Next.f
  obtain ⟨k, rfl⟩ := some_k (show 0 < k by omega)
  rw [may_no h]; simp [demand_Next.j0]
def rowB (l : List S28) : Bool := decide (l.length ≤ 16) && l.all taskB
theorem rowB_ok (l : List S28) : rowB l = true ↔ okL l := by
  unfold rowB okL
  simp only [Bool.and_eq_true, decide_eq_true_eq, List.all_eq_true]
  exact ⟨fun h => ⟨h.1, fun s hs => (taskB_ok s).1 (h.2 s hs)⟩, fun h => ⟨h.1, fun s hs => (taskB_ok s).2 (h.2 s hs)⟩⟩
theorem row_is (l : List S28) : param_Row.f l = some (rowB l) := rfl
def mayB (l : List S28) (x : Int) : Bool := rowB l && (decide (0 ≤ x) && decide (x ≤ 1099511627776))
theorem mayB_ok {l : List S28} {x : Int} : mayB l x = true ↔ okL l ∧ 0 ≤ x ∧ x ≤ 1099511627776 := by
  unfold mayB
  simp only [Bool.and_eq_true, decide_eq_true_eq, rowB_ok]
theorem may_is (l : List S28) (x : Int) : demand_may.f l x = some (mayB l x) := by
  by_cases h : mayB l x = true
  · obtain ⟨h1, h2, h3⟩ := mayB_ok.1 h
    rw [may_yes h1 h2 h3, h]
  · rw [may_no (fun h' => h (mayB_ok.2 h')), Bool.eq_false_iff.2 h]
/-- What Next tells. -/
def nextV (l : List S28) (x : Int) : Int × Bool := if (mayB l x && !l.isEmpty && !decide (Hm.next (l.map tk) x > 1099511627776)) = true then (Hm.next (l.map tk) x, true) else (0, false)
theorem Next_all (k : Nat) (l : List S28) (x : Int) (hk : 1100 ≤ k) : demand_Next.f k l x = some (nextV l x) := by
  unfold nextV
  by_cases h : mayB l x = true
  · obtain ⟨h1, h2, h3⟩ := mayB_ok.1 h
    by_cases hne : l = []
    · subst hne; rw [Next_nil k (by omega)]; simp
    · rw [Next_is k h1 hne h2 h3 hk]
      have he : l.isEmpty = false := by simpa using hne
      by_cases hg : Hm.next (l.map tk) x > 1099511627776
      · simp [h, he, hg]
      · simp [h, he, hg]
  · rw [Next_no k (fun h' => h (mayB_ok.2 h')) (by omega)]
    simp [Bool.eq_false_iff.2 h]
def ofV (l : List S28) (x : Int) : Int := if mayB l x = true then Hm.of (l.map tk) x else 0
theorem Of_all (k : Nat) (l : List S28) (x : Int) (hk : 17 ≤ k) : demand_Of.f k l x = some (ofV l x) := by
  unfold ofV
  by_cases h : mayB l x = true
  · obtain ⟨h1, h2, h3⟩ := mayB_ok.1 h
    rw [if_pos h, Of_yes k h1 h2 h3 hk]
  · rw [if_neg h, Of_no k (fun h' => h (mayB_ok.2 h'))]
-- demand_Next demand_Of demand_may param_Row
open PxR in
/-- The blocks that a row of deadlines goes by: the list in a variable, the end. -/
structure PointsAt (w W : World) (A : Option Addr) (c0 : Nat) (l0 : List S28) (most : Int) (Bl Bm : Nat) : Prop where
  hl : W.heap[Bl]? = some (.cells #[.slice A l0.length c0] 24 (0, 0))
  hm : W.heap[Bm]? = some (.cells #[.int .i64 most] 2 (0, 0))
  gl : w.heap.size ≤ Bl
  gm : w.heap.size ≤ Bm
  hb : Below w.heap.size w W
def PointsMade (w : World) (A : Option Addr) (c0 : Nat) (l0 : List S28) (most : Int) (e : Ending) (w' : World) : Prop :=
  ∃ Bl Bm, e = .returned (.func (.func 64) #[] #[.pointer (some ⟨Bl, 0, none⟩), .pointer (some ⟨Bm, 0, none⟩)]) ∧ PointsAt w w' A c0 l0 most Bl Bm
set_option maxHeartbeats 4000000 in
set_option maxRecDepth 100000 in
theorem pointsMake.calls (A : Option Addr) (c0 : Nat) (l0 : List S28) (most : Int) (w : World) :
    Calls Try.prog 45 #[.slice A l0.length c0, .int .i64 most] w (PointsMade w A c0 l0 most) := by
  go_enter Try.func45, Try.ntmps45
  go_wp2
  go_ret
  refine ⟨w.heap.size, w.heap.size + 1, rfl, ?_⟩
  exact ⟨(Below.heap_alloc _ _ _ (by simp)).trans (by simpa using heap_alloc_new w _), by have := heap_alloc_new (w.alloc (.cells #[.slice A l0.length c0] 24)) (.cells #[.int .i64 most] 2); rw [World.size_alloc] at this; simpa using this, Nat.le_refl _, by omega, below_alloc (below_alloc (Below.refl _ _) _) _⟩
/-- The deadlines from p on, up to most, at most c of them. -/
def pointsL (l0 : List S28) (most : Int) : Nat → Int × Bool → List Int
  | 0, _ => []
  | c + 1, p => if (p.2 && decide (p.1 ≤ most)) = true then p.1 :: pointsL l0 most c (nextV l0 p.1) else []
/-- what a round of the loop keeps: all that lay when the call began, and the iterator's blocks. -/
def PointsKp (w : World) (Bl Bm : Nat) (W W' : World) : Prop := Below w.heap.size W W' ∧ W'.heap[Bl]? = W.heap[Bl]? ∧ W'.heap[Bm]? = W.heap[Bm]?
set_option maxHeartbeats 4000000 in
set_option maxRecDepth 100000 in
attribute [local go_sem] Oper.semAt_some in
theorem points_seq (A : Option Addr) (c0 : Nat) (l0 : List S28) (most : Int) (w W0 : World) (hr : Kd.C k28 w A l0.length l0) (hc : l0.length ≤ c0) (Bl Bm : Nat) (hs : PointsAt w W0 A c0 l0 most Bl Bm) (n : Nat) (hn : 3 ≤ n) :
    PxR.SeqX Fence.wide n Try.prog 64 #[.pointer (some ⟨Bl, 0, none⟩), .pointer (some ⟨Bm, 0, none⟩)] (fun x : Int => #[.int .i64 x]) (PointsKp w Bl Bm) (fun _ _ => False) (fun ys => ys = pointsL l0 most 4096 (nextV l0 0)) (fun ys => ys <+: pointsL l0 most 4096 (nextV l0 0)) (pointsL l0 most 4096 (nextV l0 0)).length W0 := by
  intro l J Jx W hW hJ hJx hY h0
  refine callsIn_wide.2 ?_
  simp only [List.append_toArray, List.cons_append, List.nil_append]
  have hs1 : PointsAt w W A c0 l0 most Bl Bm := by
    obtain ⟨h1, h2, h3, h4, h5⟩ := hs
    exact ⟨blk_below h1 hW, blk_below h2 hW, h3, h4, below_step h5 hW⟩
  have HNX := Lib.hid (fun (x : Int) (W2 : World) (hW : Below w.heap.size w W2) => demand_Next.calls 2000 A c0 l0 x (nextV l0 x).1 (nextV l0 x).2 W2 (Kd.C_below hr hW) hc (Next_all 2000 l0 x (by omega)))
  have c1 : W.cell? ⟨Bl, 0, none⟩ = some (.slice A l0.length c0) := (blk_cell hs1.hl 0).trans rfl
  have HS := Lib.hid hs1
  have HN := Lib.hid hn
  have HJ := Lib.hid hJ
  have HJX := Lib.hid hJx
  have HY := Lib.hid hY
  have H0 := Lib.hid h0
  clear hs1 hs hW hr hc hn hJ hJx hY h0
  obtain ⟨xs, hxs⟩ : ∃ xs, pointsL l0 most 4096 (nextV l0 0) = xs := ⟨_, rfl⟩
  rw [hxs] at HY ⊢
  have HXS := Lib.hid hxs
  clear hxs
  go_enter Try.func64, Try.ntmps64
  go_wp2_with (go_at_call 25; refine (HNX.out 0 _ HS.out.hb).mono ?_; rintro e w1 ⟨rfl, hb1⟩; have HB1 := Aside0.mk hb1; clear hb1)
  refine (wpIn_wide (n := n)).1 ?_
  gi_loopw [4, 5, 6] (fun v4 v5 v6 wr => ∃ (pre : List Int) (p : Int × Bool) (c m : Nat), v4 = .int .i64 p.1 ∧ v5 = .bool p.2 ∧ v6 = .int .i64 m ∧ m + c = 4096 ∧ Hid (PointsAt w wr A c0 l0 most Bl Bm) ∧ Hid (xs = pre ++ pointsL l0 most c p) ∧ Hid (J pre wr)) (fun _ _ v6 _ => (4096 - intOf v6).toNat)
  case atStart =>
    refine ⟨[], nextV l0 0, 4096, 0, rfl, rfl, rfl, rfl, ?_, HXS.out.symm, ?_⟩
    · obtain ⟨h1, h2, h3, h4, h5⟩ := HS.out
      exact ⟨blk_below h1 HB1.out, blk_below h2 HB1.out, h3, h4, below_step h5 HB1.out⟩
    · exact HJ.out _ _ _ none H0.out (grown_of_below HB1.out none) (fun r e => by cases e)
  case round =>
    obtain ⟨pre, ⟨x, is⟩, c, m, rfl, rfl, rfl, hm, HA, HX, HJ0⟩ := hrel
    have cl : wr.cell? ⟨Bl, 0, none⟩ = some (.slice A l0.length c0) := (blk_cell HA.out.hl 0).trans rfl
    have cm : wr.cell? ⟨Bm, 0, none⟩ = some (.int .i64 most) := (blk_cell HA.out.hm 0).trans rfl
    have HM := Lib.hid hm
    have hm1 : (m : Int) ≤ 4096 := by omega
    cases is with
    | false =>
      have HE : Hid (J xs wr) := by
        have e : xs = pre := by rw [HX.out]; cases c <;> simp [pointsL]
        rw [e]; exact HJ0.out
      clear hm
      gi_wp2
      try rw [Exit.noGoto_normal]
      go_end0
      exact ⟨⟨_, rfl⟩, Or.inl (by first | exact ⟨xs, rfl, HE.out⟩ | exact HE.out)⟩
    | true =>
      by_cases hle : x ≤ most
      · cases c with
        | zero =>
          have HE : Hid (J xs wr) := by
            have e : xs = pre := by rw [HX.out]; simp [pointsL]
            rw [e]; exact HJ0.out
          have hm2 : ¬ (m : Int) < 4096 := by omega
          clear hm
          gi_wp2
          try rw [Exit.noGoto_normal]
          go_end0
          exact ⟨⟨_, rfl⟩, Or.inl (by first | exact ⟨xs, rfl, HE.out⟩ | exact HE.out)⟩
        | succ c =>
          have HX2 : Hid (xs = pre ++ x :: pointsL l0 most c (nextV l0 x)) := by
            have := HX.out; simp only [pointsL, Bool.true_and] at this; rw [if_pos (decide_eq_true hle)] at this; exact this
          have hm2 : (m : Int) < 4096 := by omega
          have hlen : pre.length < xs.length := by rw [HX2.out]; simp
          obtain ⟨fn, tmps, assign, body, hy, hR⟩ := HY.out pre x wr HJ0.out hlen
          have HR1 := Lib.hid hR
          clear hlen hR hm HX
          gi_wp2
          refine ⟨fun _ => by have := HN.out; omega, HR1.out.mono ?_⟩
          rintro e W3 (⟨rfl, hJ3, hk3⟩ | ⟨rfl, hJx3⟩)
          · have HA3 : Hid (PointsAt w W3 A c0 l0 most Bl Bm) := by
              obtain ⟨h1, h2, h3, h4, h5⟩ := HA.out
              obtain ⟨k1, k2, k3⟩ := hk3
              exact ⟨k2.trans h1, k3.trans h2, h3, h4, h5.trans k1⟩
            have HJ3 := Lib.hid hJ3
            have c3 : W3.cell? ⟨Bl, 0, none⟩ = some (.slice A l0.length c0) := (blk_cell HA3.out.hl 0).trans rfl
            clear hJ3 hk3
            gi_wp2
            refine ⟨trivial, fun _ => by have := HN.out; omega, (callsIn_wide.2 (HNX.out x _ HA3.out.hb)).mono ?_⟩
            rintro e W4 ⟨rfl, hb4⟩
            have HB4 := Lib.hid hb4
            clear hb4
            gi_wp2
            go_roundw
            case rel =>
              refine ⟨pre ++ [x], nextV l0 x, c, m + 1, rfl, rfl, by go_num, by have := HM.out; omega, ?_, ?_, ?_⟩
              · obtain ⟨h1, h2, h3, h4, h5⟩ := HA3.out
                exact ⟨blk_below h1 HB4.out, blk_below h2 HB4.out, h3, h4, below_step h5 HB4.out⟩
              · show xs = _
                rw [HX2.out]; simp
              · exact HJ.out _ _ _ none HJ3.out (grown_of_below HB4.out none) (fun r e => by cases e)
            case measure => have := HM.out; simp [intOf]; omega
          · have HJX3 := Lib.hid hJx3
            clear hJx3
            gi_wp2
            try rw [Exit.noGoto_ret]
            try simp only [Exit.inBlock, Exit.then]
            refine bodyPost_ret (results_none rfl _ _ _) rfl ?_
            exact ⟨⟨_, rfl⟩, Or.inr ⟨pre ++ [x], ⟨pointsL l0 most c (nextV l0 x), by rw [HX2.out]; simp⟩, HJX3.out⟩⟩
      · have HE : Hid (J xs wr) := by
          have e : xs = pre := by rw [HX.out]; cases c <;> simp [pointsL, hle]
          rw [e]; exact HJ0.out
        clear hm
        gi_wp2
        try rw [Exit.noGoto_normal]
        go_end0
        exact ⟨⟨_, rfl⟩, Or.inl (by first | exact ⟨xs, rfl, HE.out⟩ | exact HE.out)⟩
/-- The first of them at which there is too much work. -/
def firstL (l0 : List S28) : List Int → Int
  | [] => 0
  | x :: xs => if ofV l0 x > x then x else firstL l0 xs
theorem firstL_skip {l0 : List S28} (pre : List Int) (suf : List Int) (h : ∀ x ∈ pre, ofV l0 x ≤ x) : firstL l0 (pre ++ suf) = firstL l0 suf := by
  induction pre with
  | nil => rfl
  | cons y pre ih =>
    show (if ofV l0 y > y then y else firstL l0 (pre ++ suf)) = _
    rw [if_neg (Int.not_lt.2 (h y (by simp))), ih (fun x hx => h x (by simp [hx]))]
def demand_First.f (l0 : List S28) (a1 : Int) : Option (Int × Bool) := some (if mayB l0 a1 = true then (firstL l0 (pointsL l0 a1 4096 (nextV l0 0)), decide (firstL l0 (pointsL l0 a1 4096 (nextV l0 0)) > 0)) else (0, false))
theorem points_rebase {w w2 W : World} {A : Option Addr} {c0 : Nat} {l0 : List S28} {most : Int} {Bl Bm : Nat} (h : PointsAt w2 W A c0 l0 most Bl Bm) (hb : Below w.heap.size w w2) : PointsAt w W A c0 l0 most Bl Bm := by
  obtain ⟨h1, h2, h3, h4, h5⟩ := h
  exact ⟨h1, h2, Nat.le_trans hb.size h3, Nat.le_trans hb.size h4, below_step hb h5⟩
set_option maxHeartbeats 4000000 in
set_option maxRecDepth 100000 in
attribute [local go_sem] Oper.semAt_some in
theorem demand_First.calls (A0 : Option Addr) (c0 : Nat) (l0 : List S28) (a1 : Int) (r1 : Int) (r2 : Bool) (w : World) (hr0 : Kd.C k28 w A0 l0.length l0) (hc0 : l0.length ≤ c0) (h : demand_First.f l0 a1 = some (r1, r2)) :
    Calls Try.prog 29 #[.slice A0 l0.length c0, .int .i64 a1] w fun e w' => e = .returned (.tuple #[.int .i64 r1, .bool r2]) ∧ Below w.heap.size w w' := by
  have hu := Try.underlying28
  have hmax : l0.length ≤ 9223372036854775807 := Kd.C_max hr0
  unfold demand_First.f at h
  have h := Option.some.inj h
  have HR0 := Aside0.mk hr0
  have HC0 := Aside0.mk hc0
  have HMY := Lib.hid (fun (W2 : World) (hW : Below w.heap.size w W2) => demand_may.calls A0 c0 l0 a1 (mayB l0 a1) W2 (Kd.C_below hr0 hW) hc0 (may_is l0 a1))
  have HOF := Lib.hid (fun (x : Int) (W2 : World) (hW : Below w.heap.size w W2) => demand_Of.calls 20 A0 c0 l0 x (ofV l0 x) W2 (Kd.C_below hr0 hW) hc0 (Of_all 20 l0 x (by omega)))
  clear hr0 hc0
  by_cases hm : mayB l0 a1 = true
  · rw [if_pos hm] at h
    rw [hm] at HMY
    have HE := Lib.hid h
    clear hm h
    refine (callsIn_wide (n := 5)).1 ?_
    refine callsIn_of_wp_marks Try.func29 rfl trivial ?_ rfl
    simp only [Try.ntmps29, List.size_toArray, List.length_cons, List.length_nil, Nat.reduceAdd, Nat.reduceSub, Array.replicate_succ, Array.replicate_zero, List.push_toArray, List.append_toArray, List.nil_append, List.cons_append]
    refine (wpIn_wide (n := 5)).2 ?_
    go_wp2
    go_step3
    obtain ⟨b0, hb0⟩ : ∃ b, w.heap.size = b := ⟨_, rfl⟩
    go_wp2_with (go_at_call 36; refine (HMY.out _ (below_alloc (Below.refl _ _) _)).mono ?_; rintro e w1 ⟨rfl, hb1⟩; have HB1 := Lib.hid hb1; have hq : w1.heap[b0]? = some (.cells #[.slice A0 l0.length c0] 24 (0, 0)) := (hb1.block _ (by simp; omega)).trans (by rw [← hb0]; exact heap_alloc_new w _); have hl := (Array.getElem?_eq_some_iff.1 hq).1; have c1 : ∀ o, (w1.alloc o).cell? ⟨b0, 0, none⟩ = some (.slice A0 l0.length c0) := fun o => (blk_cell ((Below.heap_alloc w1 o b0 hl).trans hq) 0).trans rfl; have HQ := Lib.hid hq; clear hb1 hq)
    go_step3
    go_wp2_with (go_at_call 45; refine (pointsMake.calls A0 c0 l0 a1 _).mono ?_; rintro e w2 ⟨Bl, Bm, rfl, hst⟩; have HST := Lib.hid hst; clear hst)
    have hst := HST.out
    have hq := HQ.out
    have hst2 : PointsAt w w2 A0 c0 l0 a1 Bl Bm := points_rebase hst (below_alloc (below_step (below_alloc (Below.refl _ _) _) HB1.out) _)
    obtain ⟨be, hbe⟩ : ∃ b, w1.heap.size = b := ⟨_, rfl⟩
    have he2 : w2.heap[be]? = some (.cells #[.int .i64 0] 2 (0, 0)) := (hst.hb.block _ (by simp; omega)).trans (by rw [← hbe]; exact heap_alloc_new w1 _)
    have hq2 : w2.heap[b0]? = some (.cells #[.slice A0 l0.length c0] 24 (0, 0)) := (hst.hb.block _ (by simp; omega)).trans ((Below.heap_alloc w1 _ b0 hl).trans hq)
    have hw1 : w.heap.size ≤ be := by omega
    have hbb : b0 < be := by omega
    have sl : be < Bl := by have := hst.gl; simp at this; omega
    have sm : be < Bm := by have := hst.gm; simp at this; omega
    have zl : Bl < w2.heap.size := (Array.getElem?_eq_some_iff.1 hst.hl).1
    have zm : Bm < w2.heap.size := (Array.getElem?_eq_some_iff.1 hst.hm).1
    rw [hbe]
    have hwb : w.heap.size ≤ b0 := by omega
    have HB00 := Lib.hid hb0
    clear hst HST hq HQ hbe hl c1 HB1 hb0
    refine (wpIn_wide (n := 5)).1 ?_
    refine PxR.rangeX rfl (by omega) (gf := 64) (lb := #[.pointer (some ⟨Bl, 0, none⟩), .pointer (some ⟨Bm, 0, none⟩)]) rfl trivial (enters_of Try.func64 (by kernel_rfl) rfl) (points_seq A0 c0 l0 a1 w w2 HR0.out HC0.out Bl Bm hst2 4 (by omega)) ?kt ?kb (Below.refl _ _) (fun _ => rfl) ?ok (fun pre W => Below w.heap.size w W ∧ w2.heap.size ≤ W.heap.size ∧ W.heap[b0]? = some (.cells #[.slice A0 l0.length c0] 24 (0, 0)) ∧ W.heap[be]? = some (.cells #[.int .i64 0] 2 (0, 0)) ∧ ∀ x ∈ pre, ¬ ofV l0 x > x) (fun c pre W => c = .exit 0 ∧ Below w.heap.size w W ∧ ∃ p x, pre = p ++ [x] ∧ (∀ y ∈ p, ¬ ofV l0 y > y) ∧ ofV l0 x > x ∧ W.heap[be]? = some (.cells #[.int .i64 x] 2 (0, 0))) ?hI ?hIx ⟨hst2.hb, Nat.le_refl _, hq2, he2, fun x hx => by cases hx⟩ (fun x => { tmps := #[.slice A0 l0.length c0, .int .i64 a1, .pointer (some ⟨b0, 0, none⟩), undef, .int .i64 0, .bool false, .pointer (some ⟨be, 0, none⟩), .int .i64 x, .slice A0 l0.length c0, .int .i64 a1, .bool true, .bool false, .slice A0 l0.length c0, .int .i64 a1, .func (.func 64) #[] #[.pointer (some ⟨Bl, 0, none⟩), .pointer (some ⟨Bm, 0, none⟩)], .int .i64 x, undef, undef, undef, undef, undef, undef, undef, undef, undef], defers := [] }) ?assign ?body ?done ?stop
    case kt => exact fun h k => ⟨h.1.trans k.1, k.2.1.trans h.2.1, k.2.2.trans h.2.2⟩
    case kb =>
      intro W o o' h _
      have hz := (Array.getElem?_eq_some_iff.1 h).1
      exact ⟨(Below.refl _ W).grown (grownBy_putObj' W _ o') (by omega) (fun k e => by cases e; omega), World.putObj_heap_other (by omega), World.putObj_heap_other (by omega)⟩
    case ok => exact fun r hr => hr.elim
    case hI =>
      rintro s A B row ⟨h1, hs, h2, h3, h4⟩ hgr hr
      have hz := (Array.getElem?_eq_some_iff.1 h3).1
      have ho : ∀ r, row = some r → r = w2.heap.size ∨ r = w2.heap.size + 1 := fun r e => by
        rcases hr r e with h | ⟨h, _⟩
        · exact h.elim
        · exact h
      exact ⟨h1.grown hgr (by omega) (fun r e => by have := ho r e; omega), Nat.le_trans hs hgr.size, PxR.blk_other hgr h2 (fun e => by have := ho _ e.symm; omega), PxR.blk_other hgr h3 (fun e => by have := ho _ e.symm; omega), h4⟩
    case hIx =>
      rintro c s A B row ⟨hc, h1, p, x, h2, h3, h4, h5⟩ hgr hr
      have hz := (Array.getElem?_eq_some_iff.1 h5).1
      have ho : ∀ r, row = some r → r = w2.heap.size ∨ r = w2.heap.size + 1 := fun r e => by
        rcases hr r e with h | ⟨h, _⟩
        · exact h.elim
        · exact h
      exact ⟨hc, h1.grown hgr (by omega) (fun r e => by have := ho r e; omega), p, x, h2, h3, h4, PxR.blk_other hgr h5 (fun e => by have := ho _ e.symm; omega)⟩
    case assign =>
      intro l x W K hK
      gi_wp2
      exact hK
    case body =>
      rintro l pre x W ⟨hb, hs, h2, h3, h4⟩ _
      have c1 : W.cell? ⟨b0, 0, none⟩ = some (.slice A0 l0.length c0) := (blk_cell h2 0).trans rfl
      have H2 := Lib.hid h2
      have H3 := Lib.hid h3
      have H4 := Lib.hid h4
      have HB := Lib.hid hb
      clear h2 h3 h4 hb
      by_cases ho : ofV l0 x > x
      · have HO := Lib.hid ho
        have hd : decide (x < ofV l0 x) = true := decide_eq_true ho
        clear ho
        gi_wp2
        refine ⟨trivial, (CallsIn.inRound l (callsIn_wide.2 (HOF.out x _ HB.out))).mono ?_⟩
        rintro e w4 ⟨rfl, hb4⟩
        have HB4 := Lib.hid hb4
        have cb : w4.cell? ⟨be, 0, none⟩ = some (.int .i64 0) := (blk_cell (blk_below H3.out hb4) 0).trans rfl
        have fb : w4.frozen? ⟨be, 0, none⟩ = false := blk_frozen (blk_below H3.out hb4) 0
        clear hb4
        gi_wp2
        exact ⟨(PxR.others_of_below HB4.out).trans (KeepsOthers.setCell _ _ _), rfl, (below_step HB.out HB4.out).setCell (p := ⟨be, 0, none⟩) hw1 _, pre, x, rfl, H4.out, HO.out, by simpa using blk_set (blk_below H3.out HB4.out) 0 (.int .i64 x)⟩
      · have HO := Lib.hid ho
        have hd : decide (x < ofV l0 x) = false := decide_eq_false ho
        have HZ : Hid (Bl < W.heap.size ∧ Bm < W.heap.size ∧ w2.heap.size ≤ W.heap.size) := ⟨by omega, by omega, hs⟩
        clear ho
        gi_wp2
        refine ⟨trivial, (CallsIn.inRound l (callsIn_wide.2 (HOF.out x _ HB.out))).mono ?_⟩
        rintro e w4 ⟨rfl, hb4⟩
        have HB4 := Lib.hid hb4
        clear hb4
        gi_wp2
        refine ⟨PxR.others_of_below HB4.out, ⟨HB4.out.mono HB.out.size, HB4.out.block _ HZ.out.1, HB4.out.block _ HZ.out.2.1⟩, below_step HB.out HB4.out, Nat.le_trans HZ.out.2.2 HB4.out.size, blk_below H2.out HB4.out, blk_below H3.out HB4.out, ?_⟩
        intro y hy
        rcases List.mem_append.1 hy with h | h
        · exact H4.out y h
        · have : y = x := by simpa using h
          subst this; exact HO.out
    case done =>
      rintro D ys W hD rfl ⟨hb, hs, h2, h3, h4⟩ hK
      have c1 : W.cell? ⟨be, 0, none⟩ = some (.int .i64 0) := (blk_cell h3 0).trans rfl
      have H4 := Lib.hid h4
      have HB := Lib.hid hb
      clear h2 h3 h4 hb
      have HK := Lib.hid hK
      clear hK
      go_wp2
      go_quiet (fail)
      try go_wp2
      rw [Exit.noGoto_ret]
      refine ⟨by simp, .inl ⟨_, _, rfl, run_takeDeferred (show (World.drewN W _).heap[D]? = _ from HK.out), ?_⟩⟩
      have hz := (Array.getElem?_eq_some_iff.1 HK.out).1
      have hf := firstL_skip (l0 := l0) (pointsL l0 a1 4096 (nextV l0 0)) [] H4.out
      rw [List.append_nil] at hf
      have he := HE.out
      rw [hf] at he
      exact ⟨_, results_tmp2 rfl _ _ _, by cases he; rfl, (pw_below_drewN HB.out _).grown (grownBy_putObj' _ D (.deferred none)) (by show _ ≤ W.heap.size; have := HB.out.size; omega) (fun k e => by cases e; omega)⟩
    case stop =>
      rintro D c pre W hD hpre ⟨rfl, hb, p, x, h2, h3, h4, h5⟩ hK
      have c1 : W.cell? ⟨be, 0, none⟩ = some (.int .i64 x) := (blk_cell h5 0).trans rfl
      have H := Lib.hid (And.intro h2 (And.intro h3 h4))
      have HB := Lib.hid hb
      clear h2 h3 h4 h5 hb
      have HK := Lib.hid hK
      have HP := Lib.hid hpre
      clear hK hpre
      gi_wp2
      go_wp2
      go_quiet (fail)
      try go_wp2
      rw [Exit.noGoto_ret]
      refine ⟨by simp, .inl ⟨_, _, rfl, run_takeDeferred (show (World.drewN W _).heap[D]? = _ from HK.out), ?_⟩⟩
      have hz := (Array.getElem?_eq_some_iff.1 HK.out).1
      obtain ⟨t, ht⟩ := HP.out
      obtain ⟨g1, g2, g3⟩ := H.out
      have hf : firstL l0 (pointsL l0 a1 4096 (nextV l0 0)) = x := by
        rw [← ht, g1, List.append_assoc, firstL_skip p _ g2]
        show (if ofV l0 x > x then x else firstL l0 t) = x
        rw [if_pos g3]
      have he := HE.out
      rw [hf] at he
      exact ⟨_, results_tmp2 rfl _ _ _, by cases he; rfl, (pw_below_drewN HB.out _).grown (grownBy_putObj' _ D (.deferred none)) (by show _ ≤ W.heap.size; have := HB.out.size; omega) (fun k e => by cases e; omega)⟩
  · rw [if_neg hm] at h
    have hm := Bool.eq_false_iff.2 hm
    rw [hm] at HMY
    have HE := Lib.hid h
    clear hm h
    go_enter Try.func29, Try.ntmps29
    go_wp2
    go_step3
    go_wp2_with (go_at_call 36; refine (HMY.out _ (below_alloc (Below.refl _ _) _)).mono ?_; rintro e w1 ⟨rfl, hb1⟩; have HB1 := Aside0.mk (below_step (below_alloc (Below.refl _ _) _) hb1); clear hb1)
    try rw [Exit.noGoto_ret]
    go_ret2
    exact ⟨by cases HE.out; rfl, HB1.out⟩

/-! ### horariumref10_Same: function 46 -/
def horariumref10_Same.l0 : Nat → List Int → List Int → Int → Option (Bool)
  | 0, _, _, _ => none
  | k + 1, x0, x1, x5 => if x5 < (x0.length : Int) then (if 0 ≤ x5 then (if x5 < (x1.length : Int) then (if (rd x0 x5) = (rd x1 x5) then (horariumref10_Same.l0 k x0 x1 (wrap64 (x5 + 1))) else (some false)) else (none)) else (none)) else (some true)
def horariumref10_Same.f (k : Nat) (l0 : List Int) (l1 : List Int) : Option (Bool) := if (l0.length : Int) = (l1.length : Int) then (horariumref10_Same.l0 k l0 l1 0) else (some false)
theorem horariumref10_Same.mono_l : ∀ k, (∀ y0 y1 y2, LeO (horariumref10_Same.l0 k y0 y1 y2) (horariumref10_Same.l0 (k + 1) y0 y1 y2))
  | 0 => fun _ _ _ r h => by simp [horariumref10_Same.l0] at h
  | k + 1 => by
    have ih0 := horariumref10_Same.mono_l k
    · intro y0 y1 y2
      unfold horariumref10_Same.l0
      repeat' first
      | (with_reducible exact ih0 _ _ _)
      | (with_reducible exact LeO.refl _)
      | (with_reducible exact LeO.none _)
      | (with_reducible refine LeO.ite ?_ ?_)
      | (with_reducible refine LeO.bind ?_ (fun _ => ?_))
      | exact ih0 _ _ _
      | exact LeO.none _
      | refine LeO.ite ?_ ?_
      | refine LeO.bind ?_ (fun _ => ?_)
theorem horariumref10_Same.mono : ∀ a0 a1 k, LeO (horariumref10_Same.f k a0 a1) (horariumref10_Same.f (k + 1) a0 a1) := by
  intro a0 a1 k
  have ih0 := horariumref10_Same.mono_l k
  unfold horariumref10_Same.f
  repeat' first
      | (with_reducible exact ih0 _ _ _)
      | (with_reducible exact LeO.refl _)
      | (with_reducible exact LeO.none _)
      | (with_reducible refine LeO.ite ?_ ?_)
      | (with_reducible refine LeO.bind ?_ (fun _ => ?_))
      | exact ih0 _ _ _
      | exact LeO.none _
      | refine LeO.ite ?_ ?_
      | refine LeO.bind ?_ (fun _ => ?_)
set_option maxHeartbeats 8000000 in
set_option maxRecDepth 100000 in
theorem horariumref10_Same.calls (k : Nat) (A0 : Option Addr) (c0 : Nat) (l0 : List Int) (A1 : Option Addr) (c1 : Nat) (l1 : List Int) (r : Bool) (w : World) (hr0 : Kd.C (Kd.int .i64) w A0 l0.length l0) (hc0 : l0.length ≤ c0) (hr1 : Kd.C (Kd.int .i64) w A1 l1.length l1) (hc1 : l1.length ≤ c1) (h : horariumref10_Same.f k l0 l1 = some r) :
    Calls Try.prog 46 #[.slice A0 l0.length c0, .slice A1 l1.length c1] w fun e w' => e = .returned (.bool r) ∧ Drawn0 w w' := by
  have HR0 := Aside0.mk hr0
  have HC0 := Aside0.mk hc0
  clear hr0 hc0
  have HR1 := Aside0.mk hr1
  have HC1 := Aside0.mk hc1
  clear hr1 hc1
  have H : (if (l0.length : Int) = (l1.length : Int) then (horariumref10_Same.l0 k l0 l1 0) else (some false)) = some r := h
  clear h
  by_cases c3 : (l0.length : Int) = (l1.length : Int)
  · rw [if_pos c3] at H
    have c3b0 : ((l0.length : Int) == (l1.length : Int)) = true := beq_iff_eq.mpr c3
    have c3b1 : ((l0.length : Int) != (l1.length : Int)) = false := bne_eq_false_iff_eq.mpr c3
    have c3b2 : (l0.length == l1.length) = true := by first | simpa using c3 | (simp at c3 ⊢; omega)
    clear c3
    have H' := Aside0.mk H
    clear H
    go_enter Try.func46, Try.ntmps46
    go_wp2
    repeat (go_quiet (fail); try go_wp2)
    go_loopg [5] k (fun kq v5 w' => ∃ (x5_1 : Int), v5 = .int .i64 x5_1 ∧ Aside0 (horariumref10_Same.l0 kq l0 l1 x5_1 = some r) ∧ Aside0 (kq ≤ k) ∧ Drawn0 w w')
    case atStart => exact ⟨(0), (by first | rfl | (simp; done) | (simp [*]; done)), H', ⟨Nat.le_refl _⟩, by repeat (first | exact Drawn0.refl _ | apply Drawn0.step)⟩
    case round =>
      clear H'
      try clear c1
      try clear p2
      try clear c3
      try clear c3b0
      try clear c3b1
      try clear c3b2
      obtain ⟨x5_1, rfl, HA, HK1, ⟨m1, rfl⟩⟩ := hrel
      cases gk with
      | zero => exact absurd HA.out (by simp [horariumref10_Same.l0])
      | succ k1 =>
        have H := HA.out
        clear HA
        simp only [horariumref10_Same.l0] at H
        by_cases c4 : x5_1 < (l0.length : Int)
        · rw [if_pos c4] at H
          have c4b0 : decide (x5_1 < (l0.length : Int)) = true := decide_eq_true c4
          clear c4
          by_cases c5 : 0 ≤ x5_1
          · rw [if_pos c5] at H
            have c5b0 : decide (0 ≤ x5_1) = true := decide_eq_true c5
            clear c5
            by_cases c6 : x5_1 < (l1.length : Int)
            · rw [if_pos c6] at H
              have c6b0 : decide (x5_1 < (l1.length : Int)) = true := decide_eq_true c6
              clear c6
              by_cases c7 : (rd l0 x5_1) = (rd l1 x5_1)
              · rw [if_pos c7] at H
                have c7b0 : ((rd l0 x5_1) == (rd l1 x5_1)) = true := beq_iff_eq.mpr c7
                have c7b1 : ((rd l0 x5_1) != (rd l1 x5_1)) = false := bne_eq_false_iff_eq.mpr c7
                clear c7
                have H' := Aside0.mk H
                clear H
                have p137 : 0 ≤ (x5_1 : Int) := of_decide_eq_true (by first | (with_reducible assumption) | assumption)
                have q137 : x5_1 < (l0.length : Int) := of_decide_eq_true (by first | (with_reducible assumption) | assumption)
                obtain ⟨ad137, e137, hx137_0⟩ := Kd.at_int HR0.out x5_1 p137 q137
                cases e137
                replace p137 := eq_true p137
                replace q137 := eq_true q137
                have p138 : 0 ≤ (x5_1 : Int) := of_decide_eq_true (by first | (with_reducible assumption) | assumption)
                have q138 : x5_1 < (l1.length : Int) := of_decide_eq_true (by first | (with_reducible assumption) | assumption)
                obtain ⟨ad138, e138, hx138_0⟩ := Kd.at_int HR1.out x5_1 p138 q138
                cases e138
                replace p138 := eq_true p138
                replace q138 := eq_true q138
                go_wp2
                repeat (go_quiet (fail); try go_wp2)
                go_roundg k1
                case measure => have := HK1.out; omega
                case rel => exact ⟨(wrap64 (x5_1 + 1)), (by first | rfl | (simp; done) | (simp [*]; done)), H', ⟨by have := HK1.out; omega⟩, by repeat (first | exact Drawn0.refl _ | apply Drawn0.step)⟩
              · rw [if_neg c7] at H
                have c7b0 : ((rd l0 x5_1) == (rd l1 x5_1)) = false := beq_eq_false_iff_ne.mpr c7
                have c7b1 : ((rd l0 x5_1) != (rd l1 x5_1)) = true := bne_iff_ne.mpr c7
                obtain rfl := Option.some.inj H
                have p137 : 0 ≤ (x5_1 : Int) := of_decide_eq_true (by first | (with_reducible assumption) | assumption)
                have q137 : x5_1 < (l0.length : Int) := of_decide_eq_true (by first | (with_reducible assumption) | assumption)
                obtain ⟨ad137, e137, hx137_0⟩ := Kd.at_int HR0.out x5_1 p137 q137
                cases e137
                replace p137 := eq_true p137
                replace q137 := eq_true q137
                have p138 : 0 ≤ (x5_1 : Int) := of_decide_eq_true (by first | (with_reducible assumption) | assumption)
                have q138 : x5_1 < (l1.length : Int) := of_decide_eq_true (by first | (with_reducible assumption) | assumption)
                obtain ⟨ad138, e138, hx138_0⟩ := Kd.at_int HR1.out x5_1 p138 q138
                cases e138
                replace p138 := eq_true p138
                replace q138 := eq_true q138
                go_wp2
                repeat (go_quiet (fail); try go_wp2)
                go_ret
                exact ⟨by first | rfl | (simp; done) | (simp only [i64_w]; done) | (simp [*]; done), by repeat (first | exact Drawn0.refl _ | apply Drawn0.step)⟩
            · rw [if_neg c6] at H
              exact absurd H (by simp)
          · rw [if_neg c5] at H
            exact absurd H (by simp)
        · rw [if_neg c4] at H
          have c4b0 : decide (x5_1 < (l0.length : Int)) = false := decide_eq_false c4
          clear c4
          obtain rfl := Option.some.inj H
          go_wp2
          repeat (go_quiet (fail); try go_wp2)
          go_ret
          exact ⟨by first | rfl | (simp; done) | (simp only [i64_w]; done) | (simp [*]; done), by repeat (first | exact Drawn0.refl _ | apply Drawn0.step)⟩
  · rw [if_neg c3] at H
    have c3b0 : ((l0.length : Int) == (l1.length : Int)) = false := beq_eq_false_iff_ne.mpr c3
    have c3b1 : ((l0.length : Int) != (l1.length : Int)) = true := bne_iff_ne.mpr c3
    have c3b2 : (l0.length == l1.length) = false := by first | simpa using c3 | (simp at c3 ⊢; omega)
    obtain rfl := Option.some.inj H
    go_enter Try.func46, Try.ntmps46
    go_wp2
    repeat (go_quiet (fail); try go_wp2)
    go_ret
    exact ⟨by first | rfl | (simp; done) | (simp only [i64_w]; done) | (simp [*]; done), by repeat (first | exact Drawn0.refl _ | apply Drawn0.step)⟩

/-! ### demand_Points: function 47 (by hand) -/
-- demand_Next demand_may param_Row demand_First
def demand_Points.f (l0 : List S28) (a1 : Int) : Option (List Int) := some (if mayB l0 a1 = true then pointsL l0 a1 4096 (nextV l0 0) else [])
theorem pointsL_len (l0 : List S28) (most : Int) : ∀ c p, (pointsL l0 most c p).length ≤ c
  | 0, _ => by simp [pointsL]
  | c + 1, p => by
    unfold pointsL
    split
    · have := pointsL_len l0 most c (nextV l0 p.1); simp only [List.length_cons]; omega
    · simp
theorem own_ne {W : World} {base e size n r : Nat} {v : Value} {xs : List Value} (h : W.ownsRow base e size v n xs) (hr : r < base ∨ ∃ o : Obj, W.heap[r]? = some o ∧ o.isCells = false) : v.ownBlock = none ∨ v.ownBlock ≠ some r := by
  rcases h.2 with ⟨rfl, _⟩ | ⟨g, cap, cur, rfl, hb, hg, _⟩
  · exact .inl rfl
  · refine .inr fun e' => ?_
    have : g = r := by simpa [Value.ownBlock] using e'
    subst this
    rcases hr with hr | ⟨o, ho, hc⟩
    · omega
    · rw [hg] at ho; cases ho; cases hc
theorem own_cells {W : World} {base e size n j : Nat} {v : Value} {xs : List Value} {o : Obj} (h : W.ownsRow base e size v n xs) (ej : v.ownBlock = some j) (hj : W.heap[j]? = some o) : o.isCells = true ∧ base ≤ j := by
  rcases h.2 with ⟨rfl, _⟩ | ⟨g, cap, cur, rfl, hb, hg, _⟩
  · simp [Value.ownBlock] at ej
  · have : g = j := by simpa [Value.ownBlock] using ej
    subst this; rw [hg] at hj; cases hj; exact ⟨rfl, hb⟩
theorem own_R {W : World} {base base' e : Nat} {v : Value} {xs : List Int} (h : W.ownsRow base e 1 v xs.length (xs.map (Value.int .i64))) (hb : base' ≤ base) : Kd.R (Kd.int .i64) e W base' (fun _ => True) v xs := by
  refine ⟨fun _ _ => trivial, xs.map (Value.int .i64), ⟨h.1, ?_⟩, by show (xs.map (Value.int .i64)).length = xs.length * 1; simp, fun j p hp => ?_⟩
  · rcases h.2 with h' | ⟨g, cap, cur, h1, h2, h3⟩
    · exact .inl h'
    · exact .inr ⟨g, cap, cur, h1, Nat.le_trans hb h2, h3⟩
  · obtain ⟨hj, rfl⟩ := List.getElem?_eq_some_iff.1 hp
    show List.take 1 (List.drop (j * 1) (xs.map (Value.int .i64))) = [Value.int .i64 xs[j]]
    rw [Nat.mul_one, List.drop_eq_getElem_cons (by simpa using hj)]; simp
set_option maxHeartbeats 4000000 in
set_option maxRecDepth 100000 in
theorem demand_Points.calls (A0 : Option Addr) (c0 : Nat) (l0 : List S28) (a1 : Int) (r : List Int) (w : World) (hr0 : Kd.C k28 w A0 l0.length l0) (hc0 : l0.length ≤ c0) (h : demand_Points.f l0 a1 = some r) :
    Calls Try.prog 47 #[.slice A0 l0.length c0, .int .i64 a1] w fun e w' => ∃ v0_ : Value, e = .returned (v0_) ∧ Kd.R (Kd.int .i64) 2 w' w.heap.size (fun _ => True) v0_ r ∧ Below w.heap.size w w' := by
  have hu := Try.underlying28
  have hmax : l0.length ≤ 9223372036854775807 := Kd.C_max hr0
  unfold demand_Points.f at h
  have h := Option.some.inj h
  have HR0 := Aside0.mk hr0
  have HC0 := Aside0.mk hc0
  have HMY := Lib.hid (fun (W2 : World) (hW : Below w.heap.size w W2) => demand_may.calls A0 c0 l0 a1 (mayB l0 a1) W2 (Kd.C_below hr0 hW) hc0 (may_is l0 a1))
  clear hr0 hc0
  by_cases hm : mayB l0 a1 = true
  · rw [if_pos hm] at h
    rw [hm] at HMY
    have HE := Lib.hid h
    clear hm h
    refine (callsIn_wide (n := 5)).1 ?_
    refine callsIn_of_wp_marks Try.func47 rfl trivial ?_ rfl
    simp only [Try.ntmps47, List.size_toArray, List.length_cons, List.length_nil, Nat.reduceAdd, Nat.reduceSub, Array.replicate_succ, Array.replicate_zero, List.push_toArray, List.append_toArray, List.nil_append, List.cons_append]
    refine (wpIn_wide (n := 5)).2 ?_
    go_wp2_with (go_at_call 36; refine (HMY.out _ (Below.refl _ _)).mono ?_; rintro e w1 ⟨rfl, hb1⟩; have HB1 := Lib.hid hb1; clear hb1)
    go_wp2_with (go_at_call 45; refine (pointsMake.calls A0 c0 l0 a1 _).mono ?_; rintro e w2 ⟨Bl, Bm, rfl, hst⟩; have HST := Lib.hid hst; clear hst)
    have hst := HST.out
    have hst2 : PointsAt w w2 A0 c0 l0 a1 Bl Bm := points_rebase hst (below_alloc HB1.out _)
    obtain ⟨be, hbe⟩ : ∃ b, w1.heap.size = b := ⟨_, rfl⟩
    have he2 : w2.heap[be]? = some (.cells #[.slice none 0 0] 57 (0, 0)) := (hst.hb.block _ (by simp; omega)).trans (by rw [← hbe]; exact heap_alloc_new w1 _)
    have hw1 : w.heap.size ≤ be := by have := HB1.out.size; omega
    have sl : be < Bl := by have := hst.gl; simp at this; omega
    have sm : be < Bm := by have := hst.gm; simp at this; omega
    have zl : Bl < w2.heap.size := (Array.getElem?_eq_some_iff.1 hst.hl).1
    have zm : Bm < w2.heap.size := (Array.getElem?_eq_some_iff.1 hst.hm).1
    rw [hbe]
    clear hst HST hbe HB1
    have hlen := pointsL_len l0 a1 4096 (nextV l0 0)
    obtain ⟨i0, hi0, hz0, hz1, hz2⟩ := info_parts info2
    refine (wpIn_wide (n := 5)).1 ?_
    refine PxR.rangeX rfl (by omega) (gf := 64) (lb := #[.pointer (some ⟨Bl, 0, none⟩), .pointer (some ⟨Bm, 0, none⟩)]) rfl trivial (enters_of Try.func64 (by kernel_rfl) rfl) (points_seq A0 c0 l0 a1 w w2 HR0.out HC0.out Bl Bm hst2 4 (by omega)) ?kt ?kb (Below.refl _ _) (fun _ => rfl) ?ok (fun pre W => Below w.heap.size w W ∧ w2.heap.size ≤ W.heap.size ∧ ∃ v, W.heap[be]? = some (.cells #[v] 57 (0, 0)) ∧ W.ownsRow w2.heap.size 2 1 v pre.length (pre.map (Value.int .i64))) (fun _ _ _ => False) ?hI ?hIx ⟨hst2.hb, Nat.le_refl _, _, he2, by simp, .inl ⟨rfl, rfl⟩⟩ (fun x => { tmps := #[.slice A0 l0.length c0, .int .i64 a1, undef, undef, .slice none 0 0, .pointer (some ⟨be, 0, none⟩), .int .i64 x, .slice A0 l0.length c0, .int .i64 a1, .bool true, .bool false, .slice A0 l0.length c0, .int .i64 a1, .func (.func 64) #[] #[.pointer (some ⟨Bl, 0, none⟩), .pointer (some ⟨Bm, 0, none⟩)], .int .i64 x, undef, undef, undef, undef, undef], defers := [] }) ?assign ?body ?done ?stop
    case kt => exact fun h k => ⟨h.1.trans k.1, k.2.1.trans h.2.1, k.2.2.trans h.2.2⟩
    case kb =>
      intro W o o' h _
      have hz := (Array.getElem?_eq_some_iff.1 h).1
      exact ⟨(Below.refl _ W).grown (grownBy_putObj' W _ o') (by omega) (fun k e => by cases e; omega), World.putObj_heap_other (by omega), World.putObj_heap_other (by omega)⟩
    case ok => exact fun r hr => hr.elim
    case hI =>
      rintro s A B row ⟨h1, h2, v, hv, hown⟩ hgr hr
      have hz := (Array.getElem?_eq_some_iff.1 hv).1
      have ho : ∀ r, row = some r → (r = w2.heap.size ∨ r = w2.heap.size + 1) ∧ ∃ o : Obj, A.heap[r]? = some o ∧ o.isCells = false := fun r e => by
        rcases hr r e with h | h
        · exact h.elim
        · exact h
      refine ⟨h1.grown hgr (by omega) (fun r e => by have := (ho r e).1; omega), Nat.le_trans h2 hgr.size, v, PxR.blk_other hgr hv (fun e => by have := (ho _ e.symm).1; omega), ?_⟩
      cases row with
      | none => exact hown.kept hgr (by cases v.ownBlock <;> simp)
      | some r => exact hown.kept hgr (own_ne hown (Or.inr (ho r rfl).2))
    case hIx => exact fun _ _ _ _ _ hs _ _ => hs
    case assign =>
      intro l x W K hK
      gi_wp2_with (rw [Oper.semAt_eq _ _ _ (fun c h => by cases h)]; go_simp; try go_bits)
      exact hK
    case body =>
      rintro l pre x W ⟨hb, h2, v, hc, hown⟩ hlen2
      have c1 : W.cell? ⟨be, 0, none⟩ = some v := (blk_cell hc 0).trans rfl
      have f1 : W.frozen? ⟨be, 0, none⟩ = false := blk_frozen hc 0
      generalize Fence.wide = F0
      gi_wp2_with (first
        | (gi_at_builtin; refine wpListIn_append_own _ rfl _ _ 57 rfl w2.heap.size 2 i0 (.int .i64 0) 1 8 Try.underlying57 hi0 hz0 hz1 hz2 rfl (by decide) _ _ _ rfl (hown.alloc _) ⟨W.heap.size, 0, none⟩ 1 1 [.int .i64 x] rfl rfl (cell_one_new _ _ _) (by simp [Value.oneCell']) (by unfold maxLen; omega) (by omega) (by simp; omega) ?_; intro v' w3 hown' hg3 hnil3
           replace hg3 : (W.alloc (.cells #[.int .i64 x] 2)).grownBy w3 v.ownBlock := hg3
           have hbl : be < W.heap.size := by omega
           have ne3 : ∀ q, q < w2.heap.size → some q ≠ v.ownBlock := fun q hq e => by
             rcases own_ne hown (Or.inl hq) with h | h
             · rw [h] at e; cases e
             · exact h e.symm
           have keep3 : ∀ q, q < w2.heap.size → w3.heap[q]? = W.heap[q]? := fun q hq => (hg3.block q (by simp; omega) (ne3 q hq)).trans (Below.heap_alloc _ _ q (by omega))
           have hc3 := (keep3 be (by omega)).trans hc
           have c3 : w3.cell? ⟨be, 0, none⟩ = some v := (blk_cell hc3 0).trans rfl
           have f3 : w3.frozen? ⟨be, 0, none⟩ = false := blk_frozen hc3 0
           have hb3 : Below w.heap.size W w3 := ((Below.refl w.heap.size W).alloc (by omega) _).grown hg3 (by simp; omega) (fun q e => by
             obtain ⟨o, ho⟩ : ∃ o, (W.alloc (.cells #[.int .i64 x] 2)).heap[q]? = some o := by
               rcases (hown.alloc (.cells #[.int .i64 x] 2)).2 with ⟨rfl, _⟩ | ⟨g, cap, cur, rfl, _, hg, _⟩
               · simp [Value.ownBlock] at e
               · have : g = q := by simpa [Value.ownBlock] using e
                 subst this; exact ⟨_, hg⟩
             have := (own_cells (hown.alloc _) e ho).2
             omega)
           have hk3 : KeepsOthers W w3 := (KeepsOthers.alloc W _).trans (KeepsOthers.of_grownBy hg3 (fun j o ej hj => (own_cells (hown.alloc _) ej hj).1))
           have HB3 := Lib.hid hb3
           have HK3 := Lib.hid hk3
           have KP3 := Lib.hid keep3
           obtain ⟨g', cap', rfl⟩ : ∃ g' cap', v' = .slice (some ⟨g', 0, none⟩) (pre.length + 1) cap' := by
             rcases hown'.2 with ⟨_, h0⟩ | ⟨g', cap', _, h', _⟩
             · exact absurd h0 (by omega)
             · exact ⟨g', cap', h'⟩
           have HO3 := Lib.hid hown'
           have HC3 := Lib.hid hc3
           clear hb3 hk3 keep3 hown' hc3 ne3
           go_frame)
        | (rw [Oper.semAt_eq _ _ _ (fun c h => by cases h)]; go_simp; try go_bits))
      refine ⟨HK3.out.trans (KeepsOthers.setCell _ _ _), ⟨HB3.out.setCell (p := ⟨be, 0, none⟩) hw1 _, (Below.heap_setCell _ ⟨be, 0, none⟩ _ _ (by show _ ≠ be; omega)).trans (KP3.out _ (by omega)), (Below.heap_setCell _ ⟨be, 0, none⟩ _ _ (by show _ ≠ be; omega)).trans (KP3.out _ (by omega))⟩, ((hb.trans HB3.out).setCell (p := ⟨be, 0, none⟩) hw1 _), by have := HB3.out.size; have := HK3.out.size; simp; omega, .slice (some ⟨g', 0, none⟩) (pre.length + 1) cap', by simpa using blk_set HC3.out 0 (.slice (some ⟨g', 0, none⟩) (pre.length + 1) cap'), ?_⟩
      have := HO3.out.kept (PxR.grown_set w3 ⟨be, 0, none⟩ (.slice (some ⟨g', 0, none⟩) (pre.length + 1) cap')) (own_ne HO3.out (Or.inl (show be < w2.heap.size by omega)))
      simpa using this
    case done =>
      rintro D ys W hD rfl ⟨hb, h2, v, hc, hown⟩ hK
      have c1 : W.cell? ⟨be, 0, none⟩ = some v := (blk_cell hc 0).trans rfl
      have HB := Lib.hid hb
      have HOW := Lib.hid hown
      have HK := Lib.hid hK
      clear hb h2 hc hown hK
      go_wp2
      refine ⟨by simp, .inl ⟨_, _, rfl, run_takeDeferred HK.out, ?_⟩⟩
      have hz := (Array.getElem?_eq_some_iff.1 HK.out).1
      have hown2 := HOW.out.kept (grownBy_putObj' W D (.deferred none)) (own_ne HOW.out (Or.inr ⟨_, HK.out, rfl⟩))
      exact ⟨_, results_tmp rfl _ _ _, v, rfl, by rw [← HE.out]; exact own_R hown2 (by omega), HB.out.grown (grownBy_putObj' W D (.deferred none)) (by have := HB.out.size; omega) (fun k e => by cases e; omega)⟩
    case stop =>
      rintro D c pre W _ _ h _
      exact h.elim
  · rw [if_neg hm] at h
    have hm := Bool.eq_false_iff.2 hm
    rw [hm] at HMY
    have HE := Lib.hid h
    clear hm h
    go_enter Try.func47, Try.ntmps47
    go_wp2_with (go_at_call 36; refine (HMY.out _ (Below.refl _ _)).mono ?_; rintro e w1 ⟨rfl, hb1⟩; have HB1 := Aside0.mk hb1; clear hb1)
    go_ret
    exact ⟨_, rfl, by rw [← HE.out]; exact Kd.R_nil _ _ _ _ _, HB1.out⟩

end Go.Proofs.Ytaifojmlbbaabaa.PDemandPoints
