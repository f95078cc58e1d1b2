-- Made by px.py (a program of this session, over the kit's printer) out of the translation. Not trusted: Lean checks it.
import Derived.Test.YtaifojmlbbaabaaPDemandFirstx0
import Derived.Test.YtaifojmlbbaabaaPDemandFirstx1
import Derived.Test.YtaifojmlbbaabaaPDemandFirstx2
namespace Go.Proofs.Ytaifojmlbbaabaa.PDemandFirst
open Go.RowKit Go.Proofs.YtaifojmlbbaabaaW.PrintWords Go.Proofs.YtaifojmlbbaabaaW.PrintLast Go.Proofs.YtaifojmlbbaabaaW.PrintMore
attribute [local go_sem] max2_int min2_int max_two min_two max_three min_three max_four min_four   -- for this text's walks alone
set_option linter.unusedVariables false
set_option linter.unusedSimpArgs false

/-! ### demand_First: function 29 (by hand) -/
theorem w64 {n : Int} (h1 : -9223372036854775808 ≤ n) (h2 : n ≤ 9223372036854775807) : wrap64 n = n := by unfold wrap64; omega
theorem some_k {k : Nat} (h : 0 < k) : ∃ m, k = m + 1 := ⟨k - 1, by omega⟩
theorem tmod_rng (a : Int) {m : Int} (h : 0 < m) : -m < Int.tmod a m ∧ Int.tmod a m < m := by
  rcases Int.le_total 0 a with ha | ha
  · have h2 := Int.tmod_lt_of_pos a h; have h3 := Int.tmod_nonneg m ha; omega
  · have h2 := Int.tmod_lt_of_pos (-a) h; have h3 := Int.tmod_nonneg m (show 0 ≤ -a by omega)
    rw [Int.neg_tmod] at h2 h3; omega
theorem tmod_pos {a m : Int} (h : 0 < m) (ha : 0 ≤ a) : 0 ≤ Int.tmod a m ∧ Int.tmod a m < m := ⟨Int.tmod_nonneg m ha, Int.tmod_lt_of_pos a h⟩
theorem u64 (n : Int) : IntKind.u64.wrap n = n % 18446744073709551616 := by simp [IntKind.wrap, IntKind.bits, IntKind.signed]
theorem u64in {n : Int} (h1 : 0 ≤ n) (h2 : n < 18446744073709551616) : IntKind.u64.wrap n = n := by rw [u64]; omega
def tk (s : S28) : Hm.Tk := ⟨s.f0, s.f1, s.f2, s.f3, s.f4⟩
theorem taskB_ok (s : S28) : taskB s = true ↔ (tk s).ok := by
  unfold taskB Hm.Tk.ok tk
  simp only [Bool.and_eq_true, decide_eq_true_eq]
/-- Tasks may be. -/
def okL (l : List S28) : Prop := l.length ≤ 16 ∧ ∀ s ∈ l, (tk s).ok
theorem row_yes {l : List S28} (h : okL l) : param_Row.f l = some true := by
  unfold param_Row.f
  have h1 : l.all taskB = true := by rw [List.all_eq_true]; intro s hs; exact (taskB_ok s).2 (h.2 s hs)
  rw [h1]; simp [h.1]
theorem row_no {l : List S28} (h : ¬ okL l) : param_Row.f l = some false := by
  unfold param_Row.f
  by_cases h1 : l.length ≤ 16
  · have h2 : l.all taskB = false := by
      rw [Bool.eq_false_iff]; intro h3; rw [List.all_eq_true] at h3
      exact h ⟨h1, fun s hs => (taskB_ok s).1 (h3 s hs)⟩
    rw [h2]; simp
  · simp [h1]
theorem okL_map {l : List S28} (h : okL l) : ∀ t ∈ l.map tk, t.ok := by
  intro t ht; obtain ⟨s, hs, rfl⟩ := List.mem_map.1 ht; exact h.2 s hs
theorem rd_mid (pre : List S28) (s : S28) (suf : List S28) : rd_T28 (pre ++ s :: suf) (pre.length : Int) = s := by
  simp [rd_T28]
theorem may_yes {l : List S28} {x : Int} (h : okL l) (h0 : 0 ≤ x) (h1 : x ≤ 1099511627776) : demand_may.f l x = some true := by
  unfold demand_may.f; rw [row_yes h]; simp only [Option.bind_some, if_true]; rw [if_pos h0]; simp [h1]
theorem may_no {l : List S28} {x : Int} (h : ¬ (okL l ∧ 0 ≤ x ∧ x ≤ 1099511627776)) : demand_may.f l x = some false := by
  unfold demand_may.f
  by_cases hl : okL l
  · rw [row_yes hl]; simp only [Option.bind_some, if_true]
    by_cases h0 : 0 ≤ x
    · rw [if_pos h0]; have : ¬ x ≤ 1099511627776 := fun h1 => h ⟨hl, h0, h1⟩
      simp [this]
    · rw [if_neg h0]
  · rw [row_no hl]; rfl
theorem many_is {s : S28} {x : Int} (h : (tk s).ok) (h0 : -1 ≤ x) (h1 : x ≤ 1099511627777) : demand_many.f s.f0 s.f1 s.f2 s.f3 s.f4 x = some (Hm.many (tk s) x) := by
  obtain ⟨_, _, h2, h3, h4, h5, _, _⟩ := h
  simp only [tk] at h2 h3 h4 h5
  unfold demand_many.f
  by_cases hd : x < s.f2
  · rw [if_pos hd, Hm.many_lo (show x < (tk s).d from hd)]
  · rw [if_neg hd, if_neg (by omega), Hm.many_hi (show (tk s).d ≤ x from Int.not_lt.1 hd)]
    show _ = some ((x - s.f2) / s.f3 + 1)
    have hq := Hm.quo_lo (x - s.f2) (show 0 < s.f3 by omega)
    have hn := Int.ediv_nonneg (show 0 ≤ x - s.f2 by omega) (show 0 ≤ s.f3 by omega)
    have hm : (x - s.f2) / s.f3 ≤ s.f3 * ((x - s.f2) / s.f3) := by
      have := Int.mul_le_mul_of_nonneg_right (show 1 ≤ s.f3 by omega) hn; omega
    rw [w64 (n := x - s.f2) (by omega) (by omega), Int.tdiv_eq_ediv_of_nonneg (by omega), w64 (n := (x - s.f2) / s.f3) (by omega) (by omega), w64 (by omega) (by omega)]
theorem of_loop {x : Int} (h0 : 0 ≤ x) (h1 : x ≤ 1099511627776) (suf : List S28) : ∀ (pre : List S28) (k : Nat) (acc : Int), okL (pre ++ suf) → suf.length < k → 0 ≤ acc → acc ≤ (pre.length : Int) * 2000000000000 →
    demand_Of.l0 k x acc (pre ++ suf) ((pre ++ suf).length : Int) (pre.length : Int) = some (acc + Hm.of (suf.map tk) x) := by
  induction suf with
  | nil =>
    intro pre k acc _ hk _ _
    obtain ⟨k, rfl⟩ := some_k hk
    simp only [demand_Of.l0, List.append_nil, List.map_nil, Hm.of]
    rw [if_neg (by omega)]; simp
  | cons s suf ih =>
    intro pre k acc hok hk ha hb
    obtain ⟨k, rfl⟩ := some_k (show 0 < k by omega)
    have hs : (tk s).ok := hok.2 s (by simp)
    have hw := Hm.work_le hs h0
    have hlen := hok.1
    simp only [List.length_append, List.length_cons] at hlen hk
    have hc : (tk s).c = s.f1 := rfl
    rw [hc] at hw
    have i1 : ((pre ++ s :: suf).length : Int) = (pre.length : Int) + ((suf.length : Int) + 1) := by simp
    have i2 := ih (pre ++ [s]) k (acc + s.f1 * Hm.many (tk s) x) (by simpa using hok) (by omega) (by omega) (by simp only [List.length_append, List.length_singleton]; omega)
    simp only [List.append_assoc, List.cons_append, List.nil_append] at i2
    have i3 : ((pre ++ [s]).length : Int) = (pre.length : Int) + 1 := by simp
    rw [i3] at i2
    simp only [demand_Of.l0]
    rw [if_pos (by omega), if_pos (by omega), if_pos (by omega), rd_mid, many_is hs (by omega) (by omega)]
    simp only [Option.bind_some]
    rw [w64 (n := s.f1 * Hm.many (tk s) x) (by omega) (by omega), w64 (n := acc + s.f1 * Hm.many (tk s) x) (by omega) (by omega), w64 (n := (pre.length : Int) + 1) (by omega) (by omega), i2]
    simp only [List.map_cons, Hm.of, hc]
    congr 1; omega
theorem Of_yes {l : List S28} {x : Int} (k : Nat) (h : okL l) (h0 : 0 ≤ x) (h1 : x ≤ 1099511627776) (hk : 17 ≤ k) : demand_Of.f k l x = some (Hm.of (l.map tk) x) := by
  unfold demand_Of.f
  rw [may_yes h h0 h1]; simp only [Option.bind_some, if_true]
  have := of_loop h0 h1 l [] k 0 (by simpa using h) (by have := h.1; omega) (by omega) (by simp)
  simpa using this
theorem Of_no {l : List S28} {x : Int} (k : Nat) (h : ¬ (okL l ∧ 0 ≤ x ∧ x ≤ 1099511627776)) : demand_Of.f k l x = some 0 := by
  unfold demand_Of.f
  rw [may_no h]; simp only [Option.bind_some]; rfl
theorem rd_midI (pre : List Int) (s : Int) (suf : List Int) : rd (pre ++ s :: suf) (pre.length : Int) = s := by
  simp [rd]
theorem least_loop (suf : List Int) : ∀ (pre : List Int) (k : Nat) (m : Int), (pre ++ suf).length ≤ 1000 → suf.length < k →
    demand_least.l0 k m (pre ++ suf) ((pre ++ suf).length : Int) (pre.length : Int) = some (Hm.minL m suf) := by
  induction suf with
  | nil =>
    intro pre k m _ hk
    obtain ⟨k, rfl⟩ := some_k hk
    simp only [demand_least.l0, List.append_nil, Hm.minL]
    rw [if_neg (by omega)]
  | cons s suf ih =>
    intro pre k m hl hk
    obtain ⟨k, rfl⟩ := some_k (show 0 < k by omega)
    simp only [List.length_append, List.length_cons] at hl hk
    have i1 : ((pre ++ s :: suf).length : Int) = (pre.length : Int) + ((suf.length : Int) + 1) := by simp
    have i2 := ih (pre ++ [s]) k (mn m s) (by simp; omega) (by omega)
    simp only [List.append_assoc, List.cons_append, List.nil_append] at i2
    rw [show ((pre ++ [s]).length : Int) = (pre.length : Int) + 1 from by simp] at i2
    simp only [demand_least.l0]
    rw [if_pos (by omega), if_pos (by omega), if_pos (by omega), rd_midI, w64 (by omega) (by omega)]
    exact i2
theorem least_is (x : Int) (l : List Int) (k : Nat) (hl : l.length ≤ 900) (hk : 1000 ≤ k) : demand_least.f k (x :: l) = some (Hm.minL x (x :: l)) := by
  unfold demand_least.f
  rw [if_pos (by simp only [List.length_cons]; omega)]
  have := least_loop (x :: l) [] k x (by simp only [List.nil_append, List.length_cons]; omega) (by simp only [List.length_cons]; omega)
  simpa [rd] using this
theorem next_loop {x : Int} (h0 : 0 ≤ x) (h1 : x ≤ 1099511627776) (suf : List S28) : ∀ (pre : List S28) (k : Nat), okL (pre ++ suf) → (pre ++ suf) ≠ [] → suf.length + 1001 ≤ k →
    demand_Next.l0 k x (pre.map fun s => Hm.due (tk s) x) (pre ++ suf) ((pre ++ suf).length : Int) (pre.length : Int) =
      some (if Hm.next ((pre ++ suf).map tk) x > 1099511627776 then (0, false) else (Hm.next ((pre ++ suf).map tk) x, true)) := by
  induction suf with
  | nil =>
    intro pre k hok hne hk
    obtain ⟨k, rfl⟩ := some_k (show 0 < k by omega)
    simp only [List.append_nil] at hok hne ⊢
    simp only [demand_Next.l0]
    rw [if_neg (by omega)]
    match pre, hok, hne with
    | s :: r, hok, _ =>
      have hlen := hok.1
      simp only [List.length_cons] at hlen
      rw [List.map_cons, least_is _ _ k (by simp; omega) (by simp at hk; omega)]
      simp only [Option.bind_some]
      have e : Hm.minL (Hm.due (tk s) x) (Hm.due (tk s) x :: r.map fun s => Hm.due (tk s) x) = Hm.next ((s :: r).map tk) x := by
        simp [Hm.next, List.map_map, Function.comp_def]
      rw [e]
      split <;> rfl
  | cons s suf ih =>
    intro pre k hok _ hk
    obtain ⟨k, rfl⟩ := some_k (show 0 < k by omega)
    have hs : (tk s).ok := hok.2 s (by simp)
    have hlen := hok.1
    simp only [List.length_append, List.length_cons] at hlen hk
    have hw := Hm.due_le hs h0
    have hg := Hm.due_gt (t := tk s) (x := x) (by obtain ⟨_, _, _, _, _, _, _, _⟩ := hs; omega)
    have hmn := Hm.many_nonneg (t := tk s) (x := x) (by obtain ⟨_, _, _, _, _, _, _, _⟩ := hs; omega)
    obtain ⟨_, _, h2, h3, h4, h5, _, _⟩ := id hs
    have hd : (tk s).d = s.f2 := rfl
    have ht : (tk s).t = s.f3 := rfl
    have hdue : Hm.due (tk s) x = s.f2 + s.f3 * Hm.many (tk s) x := rfl
    rw [hdue] at hw hg
    rw [hd] at h3 h4; rw [ht] at h4 h5 hw
    have hmm := Int.mul_nonneg (show 0 ≤ s.f3 by omega) hmn
    have i1 : ((pre ++ s :: suf).length : Int) = (pre.length : Int) + ((suf.length : Int) + 1) := by simp
    have i2 := ih (pre ++ [s]) k (by simpa using hok) (by simp) (by omega)
    simp only [List.append_assoc, List.cons_append, List.nil_append, List.map_append, List.map_cons, List.map_nil] at i2
    rw [show ((pre ++ [s]).length : Int) = (pre.length : Int) + 1 from by simp, hdue] at i2
    simp only [demand_Next.l0]
    rw [if_pos (by omega), if_pos (by omega), if_pos (by omega), rd_mid, many_is hs (by omega) (by omega)]
    simp only [Option.bind_some]
    rw [if_pos (by simp; omega), w64 (n := s.f3 * Hm.many (tk s) x) (by omega) (by omega), w64 (n := s.f2 + s.f3 * Hm.many (tk s) x) (by omega) (by omega), w64 (n := (pre.length : Int) + 1) (by omega) (by omega), i2]
    simp
theorem Next_is {l : List S28} {x : Int} (k : Nat) (h : okL l) (hne : l ≠ []) (h0 : 0 ≤ x) (h1 : x ≤ 1099511627776) (hk : 1100 ≤ k) :
    demand_Next.f k l x = some (if Hm.next (l.map tk) x > 1099511627776 then (0, false) else (Hm.next (l.map tk) x, true)) := by
  unfold demand_Next.f
  rw [may_yes h h0 h1]; simp only [Option.bind_some, if_true]
  obtain ⟨k, rfl⟩ := some_k (show 0 < k by omega)
  simp only [demand_Next.j0]
  have hl := h.1
  have hz : ((l.length : Int) == 0) = false := by
    rw [beq_eq_false_iff_ne]; intro e; exact hne (List.length_eq_zero_iff.1 (by omega))
  rw [hz]; simp only [Bool.false_eq_true, if_false]
  have := next_loop h0 h1 l [] k (by simpa using h) (by simpa using hne) (by omega)
  simpa using this
theorem Next_nil {x : Int} (k : Nat) (hk : 1 ≤ k) : demand_Next.f k [] x = some (0, false) := by
  unfold demand_Next.f
  obtain ⟨k, rfl⟩ := some_k (show 0 < k by omega)
  by_cases h : 0 ≤ x ∧ x ≤ 1099511627776
  · rw [may_yes (l := []) ⟨by simp, by simp⟩ h.1 h.2]; simp [demand_Next.j0]
  · rw [may_no (l := []) (fun hh => h hh.2)]; simp [demand_Next.j0]
theorem Next_no {l : List S28} {x : Int} (k : Nat) (h : ¬ (okL l ∧ 0 ≤ x ∧ x ≤ 1099511627776)) (hk : 1 ≤ k) : demand_Next.f k l x = some (0, false) := by
  unfold demand_Next.f
  obtain ⟨k, rfl⟩ := some_k (show 0 < k by omega)
  rw [may_no h]; simp [demand_Next.j0]
def rowB (l : List S28) : Bool := decide (l.length ≤ 16) && l.all taskB
theorem rowB_ok (l : List S28) : rowB l = true ↔ okL l := by
  unfold rowB okL
  simp only [Bool.and_eq_true, decide_eq_true_eq, List.all_eq_true]
  exact ⟨fun h => ⟨h.1, fun s hs => (taskB_ok s).1 (h.2 s hs)⟩, fun h => ⟨h.1, fun s hs => (taskB_ok s).2 (h.2 s hs)⟩⟩
theorem row_is (l : List S28) : param_Row.f l = some (rowB l) := rfl
def mayB (l : List S28) (x : Int) : Bool := rowB l && (decide (0 ≤ x) && decide (x ≤ 1099511627776))
theorem mayB_ok {l : List S28} {x : Int} : mayB l x = true ↔ okL l ∧ 0 ≤ x ∧ x ≤ 1099511627776 := by
  unfold mayB
  simp only [Bool.and_eq_true, decide_eq_true_eq, rowB_ok]
theorem may_is (l : List S28) (x : Int) : demand_may.f l x = some (mayB l x) := by
  by_cases h : mayB l x = true
  · obtain ⟨h1, h2, h3⟩ := mayB_ok.1 h
    rw [may_yes h1 h2 h3, h]
  · rw [may_no (fun h' => h (mayB_ok.2 h')), Bool.eq_false_iff.2 h]
/-- What Next tells. -/
def nextV (l : List S28) (x : Int) : Int × Bool := if (mayB l x && !l.isEmpty && !decide (Hm.next (l.map tk) x > 1099511627776)) = true then (Hm.next (l.map tk) x, true) else (0, false)
theorem Next_all (k : Nat) (l : List S28) (x : Int) (hk : 1100 ≤ k) : demand_Next.f k l x = some (nextV l x) := by
  unfold nextV
  by_cases h : mayB l x = true
  · obtain ⟨h1, h2, h3⟩ := mayB_ok.1 h
    by_cases hne : l = []
    · subst hne; rw [Next_nil k (by omega)]; simp
    · rw [Next_is k h1 hne h2 h3 hk]
      have he : l.isEmpty = false := by simpa using hne
      by_cases hg : Hm.next (l.map tk) x > 1099511627776
      · simp [h, he, hg]
      · simp [h, he, hg]
  · rw [Next_no k (fun h' => h (mayB_ok.2 h')) (by omega)]
    simp [Bool.eq_false_iff.2 h]
def ofV (l : List S28) (x : Int) : Int := if mayB l x = true then Hm.of (l.map tk) x else 0
theorem Of_all (k : Nat) (l : List S28) (x : Int) (hk : 17 ≤ k) : demand_Of.f k l x = some (ofV l x) := by
  unfold ofV
  by_cases h : mayB l x = true
  · obtain ⟨h1, h2, h3⟩ := mayB_ok.1 h
    rw [if_pos h, Of_yes k h1 h2 h3 hk]
  · rw [if_neg h, Of_no k (fun h' => h (mayB_ok.2 h'))]
-- demand_Next demand_Of demand_may param_Row
open PxR in
/-- The blocks that a row of deadlines goes by: the list in a variable, the end. -/
structure PointsAt (w W : World) (A : Option Addr) (c0 : Nat) (l0 : List S28) (most : Int) (Bl Bm : Nat) : Prop where
  hl : W.heap[Bl]? = some (.cells #[.slice A l0.length c0] 24 (0, 0))
  hm : W.heap[Bm]? = some (.cells #[.int .i64 most] 2 (0, 0))
  gl : w.heap.size ≤ Bl
  gm : w.heap.size ≤ Bm
  hb : Below w.heap.size w W
def PointsMade (w : World) (A : Option Addr) (c0 : Nat) (l0 : List S28) (most : Int) (e : Ending) (w' : World) : Prop :=
  ∃ Bl Bm, e = .returned (.func (.func 64) #[] #[.pointer (some ⟨Bl, 0, none⟩), .pointer (some ⟨Bm, 0, none⟩)]) ∧ PointsAt w w' A c0 l0 most Bl Bm
set_option maxHeartbeats 4000000 in
set_option maxRecDepth 100000 in
theorem pointsMake.calls (A : Option Addr) (c0 : Nat) (l0 : List S28) (most : Int) (w : World) :
    Calls Try.prog 45 #[.slice A l0.length c0, .int .i64 most] w (PointsMade w A c0 l0 most) := by
  go_enter Try.func45, Try.ntmps45
  go_wp2
  go_ret
  refine ⟨w.heap.size, w.heap.size + 1, rfl, ?_⟩
  exact ⟨(Below.heap_alloc _ _ _ (by simp)).trans (by simpa using heap_alloc_new w _), by have := heap_alloc_new (w.alloc (.cells #[.slice A l0.length c0] 24)) (.cells #[.int .i64 most] 2); rw [World.size_alloc] at this; simpa using this, Nat.le_refl _, by omega, below_alloc (below_alloc (Below.refl _ _) _) _⟩
/-- The deadlines from p on, up to most, at most c of them. -/
def pointsL (l0 : List S28) (most : Int) : Nat → Int × Bool → List Int
  | 0, _ => []
  | c + 1, p => if (p.2 && decide (p.1 ≤ most)) = true then p.1 :: pointsL l0 most c (nextV l0 p.1) else []
/-- what a round of the loop keeps: all that lay when the call began, and the iterator's blocks. -/
def PointsKp (w : World) (Bl Bm : Nat) (W W' : World) : Prop := Below w.heap.size W W' ∧ W'.heap[Bl]? = W.heap[Bl]? ∧ W'.heap[Bm]? = W.heap[Bm]?
set_option maxHeartbeats 4000000 in
set_option maxRecDepth 100000 in
attribute [local go_sem] Oper.semAt_some in
theorem points_seq (A : Option Addr) (c0 : Nat) (l0 : List S28) (most : Int) (w W0 : World) (hr : Kd.C k28 w A l0.length l0) (hc : l0.length ≤ c0) (Bl Bm : Nat) (hs : PointsAt w W0 A c0 l0 most Bl Bm) (n : Nat) (hn : 3 ≤ n) :
    PxR.SeqX Fence.wide n Try.prog 64 #[.pointer (some ⟨Bl, 0, none⟩), .pointer (some ⟨Bm, 0, none⟩)] (fun x : Int => #[.int .i64 x]) (PointsKp w Bl Bm) (fun _ _ => False) (fun ys => ys = pointsL l0 most 4096 (nextV l0 0)) (fun ys => ys <+: pointsL l0 most 4096 (nextV l0 0)) (pointsL l0 most 4096 (nextV l0 0)).length W0 := by
  intro l J Jx W hW hJ hJx hY h0
  refine callsIn_wide.2 ?_
  simp only [List.append_toArray, List.cons_append, List.nil_append]
  have hs1 : PointsAt w W A c0 l0 most Bl Bm := by
    obtain ⟨h1, h2, h3, h4, h5⟩ := hs
    exact ⟨blk_below h1 hW, blk_below h2 hW, h3, h4, below_step h5 hW⟩
  have HNX := Lib.hid (fun (x : Int) (W2 : World) (hW : Below w.heap.size w W2) => demand_Next.calls 2000 A c0 l0 x (nextV l0 x).1 (nextV l0 x).2 W2 (Kd.C_below hr hW) hc (Next_all 2000 l0 x (by omega)))
  have c1 : W.cell? ⟨Bl, 0, none⟩ = some (.slice A l0.length c0) := (blk_cell hs1.hl 0).trans rfl
  have HS := Lib.hid hs1
  have HN := Lib.hid hn
  have HJ := Lib.hid hJ
  have HJX := Lib.hid hJx
  have HY := Lib.hid hY
  have H0 := Lib.hid h0
  clear hs1 hs hW hr hc hn hJ hJx hY h0
  obtain ⟨xs, hxs⟩ : ∃ xs, pointsL l0 most 4096 (nextV l0 0) = xs := ⟨_, rfl⟩
  rw [hxs] at HY ⊢
  have HXS := Lib.hid hxs
  clear hxs
  go_enter Try.func64, Try.ntmps64
  go_wp2_with (go_at_call 25; refine (HNX.out 0 _ HS.out.hb).mono ?_; rintro e w1 ⟨rfl, hb1⟩; have HB1 := Aside0.mk hb1; clear hb1)
  refine (wpIn_wide (n := n)).1 ?_
  gi_loopw [4, 5, 6] (fun v4 v5 v6 wr => ∃ (pre : List Int) (p : Int × Bool) (c m : Nat), v4 = .int .i64 p.1 ∧ v5 = .bool p.2 ∧ v6 = .int .i64 m ∧ m + c = 4096 ∧ Hid (PointsAt w wr A c0 l0 most Bl Bm) ∧ Hid (xs = pre ++ pointsL l0 most c p) ∧ Hid (J pre wr)) (fun _ _ v6 _ => (4096 - intOf v6).toNat)
  case atStart =>
    refine ⟨[], nextV l0 0, 4096, 0, rfl, rfl, rfl, rfl, ?_, HXS.out.symm, ?_⟩
    · obtain ⟨h1, h2, h3, h4, h5⟩ := HS.out
      exact ⟨blk_below h1 HB1.out, blk_below h2 HB1.out, h3, h4, below_step h5 HB1.out⟩
    · exact HJ.out _ _ _ none H0.out (grown_of_below HB1.out none) (fun r e => by cases e)
  case round =>
    obtain ⟨pre, ⟨x, is⟩, c, m, rfl, rfl, rfl, hm, HA, HX, HJ0⟩ := hrel
    have cl : wr.cell? ⟨Bl, 0, none⟩ = some (.slice A l0.length c0) := (blk_cell HA.out.hl 0).trans rfl
    have cm : wr.cell? ⟨Bm, 0, none⟩ = some (.int .i64 most) := (blk_cell HA.out.hm 0).trans rfl
    have HM := Lib.hid hm
    have hm1 : (m : Int) ≤ 4096 := by omega
    cases is with
    | false =>
      have HE : Hid (J xs wr) := by
        have e : xs = pre := by rw [HX.out]; cases c <;> simp [pointsL]
        rw [e]; exact HJ0.out
      clear hm
      gi_wp2
      try rw [Exit.noGoto_normal]
      go_end0
      exact ⟨⟨_, rfl⟩, Or.inl (by first | exact ⟨xs, rfl, HE.out⟩ | exact HE.out)⟩
    | true =>
      by_cases hle : x ≤ most
      · cases c with
        | zero =>
          have HE : Hid (J xs wr) := by
            have e : xs = pre := by rw [HX.out]; simp [pointsL]
            rw [e]; exact HJ0.out
          have hm2 : ¬ (m : Int) < 4096 := by omega
          clear hm
          gi_wp2
          try rw [Exit.noGoto_normal]
          go_end0
          exact ⟨⟨_, rfl⟩, Or.inl (by first | exact ⟨xs, rfl, HE.out⟩ | exact HE.out)⟩
        | succ c =>
          have HX2 : Hid (xs = pre ++ x :: pointsL l0 most c (nextV l0 x)) := by
            have := HX.out; simp only [pointsL, Bool.true_and] at this; rw [if_pos (decide_eq_true hle)] at this; exact this
          have hm2 : (m : Int) < 4096 := by omega
          have hlen : pre.length < xs.length := by rw [HX2.out]; simp
          obtain ⟨fn, tmps, assign, body, hy, hR⟩ := HY.out pre x wr HJ0.out hlen
          have HR1 := Lib.hid hR
          clear hlen hR hm HX
          gi_wp2
          refine ⟨fun _ => by have := HN.out; omega, HR1.out.mono ?_⟩
          rintro e W3 (⟨rfl, hJ3, hk3⟩ | ⟨rfl, hJx3⟩)
          · have HA3 : Hid (PointsAt w W3 A c0 l0 most Bl Bm) := by
              obtain ⟨h1, h2, h3, h4, h5⟩ := HA.out
              obtain ⟨k1, k2, k3⟩ := hk3
              exact ⟨k2.trans h1, k3.trans h2, h3, h4, h5.trans k1⟩
            have HJ3 := Lib.hid hJ3
            have c3 : W3.cell? ⟨Bl, 0, none⟩ = some (.slice A l0.length c0) := (blk_cell HA3.out.hl 0).trans rfl
            clear hJ3 hk3
            gi_wp2
            refine ⟨trivial, fun _ => by have := HN.out; omega, (callsIn_wide.2 (HNX.out x _ HA3.out.hb)).mono ?_⟩
            rintro e W4 ⟨rfl, hb4⟩
            have HB4 := Lib.hid hb4
            clear hb4
            gi_wp2
            go_roundw
            case rel =>
              refine ⟨pre ++ [x], nextV l0 x, c, m + 1, rfl, rfl, by go_num, by have := HM.out; omega, ?_, ?_, ?_⟩
              · obtain ⟨h1, h2, h3, h4, h5⟩ := HA3.out
                exact ⟨blk_below h1 HB4.out, blk_below h2 HB4.out, h3, h4, below_step h5 HB4.out⟩
              · show xs = _
                rw [HX2.out]; simp
              · exact HJ.out _ _ _ none HJ3.out (grown_of_below HB4.out none) (fun r e => by cases e)
            case measure => have := HM.out; simp [intOf]; omega
          · have HJX3 := Lib.hid hJx3
            clear hJx3
            gi_wp2
            try rw [Exit.noGoto_ret]
            try simp only [Exit.inBlock, Exit.then]
            refine bodyPost_ret (results_none rfl _ _ _) rfl ?_
            exact ⟨⟨_, rfl⟩, Or.inr ⟨pre ++ [x], ⟨pointsL l0 most c (nextV l0 x), by rw [HX2.out]; simp⟩, HJX3.out⟩⟩
      · have HE : Hid (J xs wr) := by
          have e : xs = pre := by rw [HX.out]; cases c <;> simp [pointsL, hle]
          rw [e]; exact HJ0.out
        clear hm
        gi_wp2
        try rw [Exit.noGoto_normal]
        go_end0
        exact ⟨⟨_, rfl⟩, Or.inl (by first | exact ⟨xs, rfl, HE.out⟩ | exact HE.out)⟩
/-- The first of them at which there is too much work. -/
def firstL (l0 : List S28) : List Int → Int
  | [] => 0
  | x :: xs => if ofV l0 x > x then x else firstL l0 xs
theorem firstL_skip {l0 : List S28} (pre : List Int) (suf : List Int) (h : ∀ x ∈ pre, ofV l0 x ≤ x) : firstL l0 (pre ++ suf) = firstL l0 suf := by
  induction pre with
  | nil => rfl
  | cons y pre ih =>
    show (if ofV l0 y > y then y else firstL l0 (pre ++ suf)) = _
    rw [if_neg (Int.not_lt.2 (h y (by simp))), ih (fun x hx => h x (by simp [hx]))]
def demand_First.f (l0 : List S28) (a1 : Int) : Option (Int × Bool) := some (if mayB l0 a1 = true then (firstL l0 (pointsL l0 a1 4096 (nextV l0 0)), decide (firstL l0 (pointsL l0 a1 4096 (nextV l0 0)) > 0)) else (0, false))
theorem points_rebase {w w2 W : World} {A : Option Addr} {c0 : Nat} {l0 : List S28} {most : Int} {Bl Bm : Nat} (h : PointsAt w2 W A c0 l0 most Bl Bm) (hb : Below w.heap.size w w2) : PointsAt w W A c0 l0 most Bl Bm := by
  obtain ⟨h1, h2, h3, h4, h5⟩ := h
  exact ⟨h1, h2, Nat.le_trans hb.size h3, Nat.le_trans hb.size h4, below_step hb h5⟩
set_option maxHeartbeats 4000000 in
set_option maxRecDepth 100000 in
attribute [local go_sem] Oper.semAt_some in
theorem demand_First.calls (A0 : Option Addr) (c0 : Nat) (l0 : List S28) (a1 : Int) (r1 : Int) (r2 : Bool) (w : World) (hr0 : Kd.C k28 w A0 l0.length l0) (hc0 : l0.length ≤ c0) (h : demand_First.f l0 a1 = some (r1, r2)) :
    Calls Try.prog 29 #[.slice A0 l0.length c0, .int .i64 a1] w fun e w' => e = .returned (.tuple #[.int .i64 r1, .bool r2]) ∧ Below w.heap.size w w' := by
  have hu := Try.underlying28
  have hmax : l0.length ≤ 9223372036854775807 := Kd.C_max hr0
  unfold demand_First.f at h
  have h := Option.some.inj h
  have HR0 := Aside0.mk hr0
  have HC0 := Aside0.mk hc0
  have HMY := Lib.hid (fun (W2 : World) (hW : Below w.heap.size w W2) => demand_may.calls A0 c0 l0 a1 (mayB l0 a1) W2 (Kd.C_below hr0 hW) hc0 (may_is l0 a1))
  have HOF := Lib.hid (fun (x : Int) (W2 : World) (hW : Below w.heap.size w W2) => demand_Of.calls 20 A0 c0 l0 x (ofV l0 x) W2 (Kd.C_below hr0 hW) hc0 (Of_all 20 l0 x (by omega)))
  clear hr0 hc0
  by_cases hm : mayB l0 a1 = true
  · rw [if_pos hm] at h
    rw [hm] at HMY
    have HE := Lib.hid h
    clear hm h
    refine (callsIn_wide (n := 5)).1 ?_
    refine callsIn_of_wp_marks Try.func29 rfl trivial ?_ rfl
    simp only [Try.ntmps29, List.size_toArray, List.length_cons, List.length_nil, Nat.reduceAdd, Nat.reduceSub, Array.replicate_succ, Array.replicate_zero, List.push_toArray, List.append_toArray, List.nil_append, List.cons_append]
    refine (wpIn_wide (n := 5)).2 ?_
    go_wp2
    go_step3
    obtain ⟨b0, hb0⟩ : ∃ b, w.heap.size = b := ⟨_, rfl⟩
    go_wp2_with (go_at_call 36; refine (HMY.out _ (below_alloc (Below.refl _ _) _)).mono ?_; rintro e w1 ⟨rfl, hb1⟩; have HB1 := Lib.hid hb1; have hq : w1.heap[b0]? = some (.cells #[.slice A0 l0.length c0] 24 (0, 0)) := (hb1.block _ (by simp; omega)).trans (by rw [← hb0]; exact heap_alloc_new w _); have hl := (Array.getElem?_eq_some_iff.1 hq).1; have c1 : ∀ o, (w1.alloc o).cell? ⟨b0, 0, none⟩ = some (.slice A0 l0.length c0) := fun o => (blk_cell ((Below.heap_alloc w1 o b0 hl).trans hq) 0).trans rfl; have HQ := Lib.hid hq; clear hb1 hq)
    go_step3
    go_wp2_with (go_at_call 45; refine (pointsMake.calls A0 c0 l0 a1 _).mono ?_; rintro e w2 ⟨Bl, Bm, rfl, hst⟩; have HST := Lib.hid hst; clear hst)
    have hst := HST.out
    have hq := HQ.out
    have hst2 : PointsAt w w2 A0 c0 l0 a1 Bl Bm := points_rebase hst (below_alloc (below_step (below_alloc (Below.refl _ _) _) HB1.out) _)
    obtain ⟨be, hbe⟩ : ∃ b, w1.heap.size = b := ⟨_, rfl⟩
    have he2 : w2.heap[be]? = some (.cells #[.int .i64 0] 2 (0, 0)) := (hst.hb.block _ (by simp; omega)).trans (by rw [← hbe]; exact heap_alloc_new w1 _)
    have hq2 : w2.heap[b0]? = some (.cells #[.slice A0 l0.length c0] 24 (0, 0)) := (hst.hb.block _ (by simp; omega)).trans ((Below.heap_alloc w1 _ b0 hl).trans hq)
    have hw1 : w.heap.size ≤ be := by omega
    have hbb : b0 < be := by omega
    have sl : be < Bl := by have := hst.gl; simp at this; omega
    have sm : be < Bm := by have := hst.gm; simp at this; omega
    have zl : Bl < w2.heap.size := (Array.getElem?_eq_some_iff.1 hst.hl).1
    have zm : Bm < w2.heap.size := (Array.getElem?_eq_some_iff.1 hst.hm).1
    rw [hbe]
    have hwb : w.heap.size ≤ b0 := by omega
    have HB00 := Lib.hid hb0
    clear hst HST hq HQ hbe hl c1 HB1 hb0
    refine (wpIn_wide (n := 5)).1 ?_
    refine PxR.rangeX rfl (by omega) (gf := 64) (lb := #[.pointer (some ⟨Bl, 0, none⟩), .pointer (some ⟨Bm, 0, none⟩)]) rfl trivial (enters_of Try.func64 (by kernel_rfl) rfl) (points_seq A0 c0 l0 a1 w w2 HR0.out HC0.out Bl Bm hst2 4 (by omega)) ?kt ?kb (Below.refl _ _) (fun _ => rfl) ?ok (fun pre W => Below w.heap.size w W ∧ w2.heap.size ≤ W.heap.size ∧ W.heap[b0]? = some (.cells #[.slice A0 l0.length c0] 24 (0, 0)) ∧ W.heap[be]? = some (.cells #[.int .i64 0] 2 (0, 0)) ∧ ∀ x ∈ pre, ¬ ofV l0 x > x) (fun c pre W => c = .exit 0 ∧ Below w.heap.size w W ∧ ∃ p x, pre = p ++ [x] ∧ (∀ y ∈ p, ¬ ofV l0 y > y) ∧ ofV l0 x > x ∧ W.heap[be]? = some (.cells #[.int .i64 x] 2 (0, 0))) ?hI ?hIx ⟨hst2.hb, Nat.le_refl _, hq2, he2, fun x hx => by cases hx⟩ (fun x => { tmps := #[.slice A0 l0.length c0, .int .i64 a1, .pointer (some ⟨b0, 0, none⟩), undef, .int .i64 0, .bool false, .pointer (some ⟨be, 0, none⟩), .int .i64 x, .slice A0 l0.length c0, .int .i64 a1, .bool true, .bool false, .slice A0 l0.length c0, .int .i64 a1, .func (.func 64) #[] #[.pointer (some ⟨Bl, 0, none⟩), .pointer (some ⟨Bm, 0, none⟩)], .int .i64 x, undef, undef, undef, undef, undef, undef, undef, undef, undef], defers := [] }) ?assign ?body ?done ?stop
    case kt => exact fun h k => ⟨h.1.trans k.1, k.2.1.trans h.2.1, k.2.2.trans h.2.2⟩
    case kb =>
      intro W o o' h _
      have hz := (Array.getElem?_eq_some_iff.1 h).1
      exact ⟨(Below.refl _ W).grown (grownBy_putObj' W _ o') (by omega) (fun k e => by cases e; omega), World.putObj_heap_other (by omega), World.putObj_heap_other (by omega)⟩
    case ok => exact fun r hr => hr.elim
    case hI =>
      rintro s A B row ⟨h1, hs, h2, h3, h4⟩ hgr hr
      have hz := (Array.getElem?_eq_some_iff.1 h3).1
      have ho : ∀ r, row = some r → r = w2.heap.size ∨ r = w2.heap.size + 1 := fun r e => by
        rcases hr r e with h | ⟨h, _⟩
        · exact h.elim
        · exact h
      exact ⟨h1.grown hgr (by omega) (fun r e => by have := ho r e; omega), Nat.le_trans hs hgr.size, PxR.blk_other hgr h2 (fun e => by have := ho _ e.symm; omega), PxR.blk_other hgr h3 (fun e => by have := ho _ e.symm; omega), h4⟩
    case hIx =>
      rintro c s A B row ⟨hc, h1, p, x, h2, h3, h4, h5⟩ hgr hr
      have hz := (Array.getElem?_eq_some_iff.1 h5).1
      have ho : ∀ r, row = some r → r = w2.heap.size ∨ r = w2.heap.size + 1 := fun r e => by
        rcases hr r e with h | ⟨h, _⟩
        · exact h.elim
        · exact h
      exact ⟨hc, h1.grown hgr (by omega) (fun r e => by have := ho r e; omega), p, x, h2, h3, h4, PxR.blk_other hgr h5 (fun e => by have := ho _ e.symm; omega)⟩
    case assign =>
      intro l x W K hK
      gi_wp2
      exact hK
    case body =>
      rintro l pre x W ⟨hb, hs, h2, h3, h4⟩ _
      have c1 : W.cell? ⟨b0, 0, none⟩ = some (.slice A0 l0.length c0) := (blk_cell h2 0).trans rfl
      have H2 := Lib.hid h2
      have H3 := Lib.hid h3
      have H4 := Lib.hid h4
      have HB := Lib.hid hb
      clear h2 h3 h4 hb
      by_cases ho : ofV l0 x > x
      · have HO := Lib.hid ho
        have hd : decide (x < ofV l0 x) = true := decide_eq_true ho
        clear ho
        gi_wp2
        refine ⟨trivial, (CallsIn.inRound l (callsIn_wide.2 (HOF.out x _ HB.out))).mono ?_⟩
        rintro e w4 ⟨rfl, hb4⟩
        have HB4 := Lib.hid hb4
        have cb : w4.cell? ⟨be, 0, none⟩ = some (.int .i64 0) := (blk_cell (blk_below H3.out hb4) 0).trans rfl
        have fb : w4.frozen? ⟨be, 0, none⟩ = false := blk_frozen (blk_below H3.out hb4) 0
        clear hb4
        gi_wp2
        exact ⟨(PxR.others_of_below HB4.out).trans (KeepsOthers.setCell _ _ _), rfl, (below_step HB.out HB4.out).setCell (p := ⟨be, 0, none⟩) hw1 _, pre, x, rfl, H4.out, HO.out, by simpa using blk_set (blk_below H3.out HB4.out) 0 (.int .i64 x)⟩
      · have HO := Lib.hid ho
        have hd : decide (x < ofV l0 x) = false := decide_eq_false ho
        have HZ : Hid (Bl < W.heap.size ∧ Bm < W.heap.size ∧ w2.heap.size ≤ W.heap.size) := ⟨by omega, by omega, hs⟩
        clear ho
        gi_wp2
        refine ⟨trivial, (CallsIn.inRound l (callsIn_wide.2 (HOF.out x _ HB.out))).mono ?_⟩
        rintro e w4 ⟨rfl, hb4⟩
        have HB4 := Lib.hid hb4
        clear hb4
        gi_wp2
        refine ⟨PxR.others_of_below HB4.out, ⟨HB4.out.mono HB.out.size, HB4.out.block _ HZ.out.1, HB4.out.block _ HZ.out.2.1⟩, below_step HB.out HB4.out, Nat.le_trans HZ.out.2.2 HB4.out.size, blk_below H2.out HB4.out, blk_below H3.out HB4.out, ?_⟩
        intro y hy
        rcases List.mem_append.1 hy with h | h
        · exact H4.out y h
        · have : y = x := by simpa using h
          subst this; exact HO.out
    case done =>
      rintro D ys W hD rfl ⟨hb, hs, h2, h3, h4⟩ hK
      have c1 : W.cell? ⟨be, 0, none⟩ = some (.int .i64 0) := (blk_cell h3 0).trans rfl
      have H4 := Lib.hid h4
      have HB := Lib.hid hb
      clear h2 h3 h4 hb
      have HK := Lib.hid hK
      clear hK
      go_wp2
      go_quiet (fail)
      try go_wp2
      rw [Exit.noGoto_ret]
      refine ⟨by simp, .inl ⟨_, _, rfl, run_takeDeferred (show (World.drewN W _).heap[D]? = _ from HK.out), ?_⟩⟩
      have hz := (Array.getElem?_eq_some_iff.1 HK.out).1
      have hf := firstL_skip (l0 := l0) (pointsL l0 a1 4096 (nextV l0 0)) [] H4.out
      rw [List.append_nil] at hf
      have he := HE.out
      rw [hf] at he
      exact ⟨_, results_tmp2 rfl _ _ _, by cases he; rfl, (pw_below_drewN HB.out _).grown (grownBy_putObj' _ D (.deferred none)) (by show _ ≤ W.heap.size; have := HB.out.size; omega) (fun k e => by cases e; omega)⟩
    case stop =>
      rintro D c pre W hD hpre ⟨rfl, hb, p, x, h2, h3, h4, h5⟩ hK
      have c1 : W.cell? ⟨be, 0, none⟩ = some (.int .i64 x) := (blk_cell h5 0).trans rfl
      have H := Lib.hid (And.intro h2 (And.intro h3 h4))
      have HB := Lib.hid hb
      clear h2 h3 h4 h5 hb
      have HK := Lib.hid hK
      have HP := Lib.hid hpre
      clear hK hpre
      gi_wp2
      go_wp2
      go_quiet (fail)
      try go_wp2
      rw [Exit.noGoto_ret]
      refine ⟨by simp, .inl ⟨_, _, rfl, run_takeDeferred (show (World.drewN W _).heap[D]? = _ from HK.out), ?_⟩⟩
      have hz := (Array.getElem?_eq_some_iff.1 HK.out).1
      obtain ⟨t, ht⟩ := HP.out
      obtain ⟨g1, g2, g3⟩ := H.out
      have hf : firstL l0 (pointsL l0 a1 4096 (nextV l0 0)) = x := by
        rw [← ht, g1, List.append_assoc, firstL_skip p _ g2]
        show (if ofV l0 x > x then x else firstL l0 t) = x
        rw [if_pos g3]
      have he := HE.out
      rw [hf] at he
      exact ⟨_, results_tmp2 rfl _ _ _, by cases he; rfl, (pw_below_drewN HB.out _).grown (grownBy_putObj' _ D (.deferred none)) (by show _ ≤ W.heap.size; have := HB.out.size; omega) (fun k e => by cases e; omega)⟩
  · rw [if_neg hm] at h
    have hm := Bool.eq_false_iff.2 hm
    rw [hm] at HMY
    have HE := Lib.hid h
    clear hm h
    go_enter Try.func29, Try.ntmps29
    go_wp2
    go_step3
    go_wp2_with (go_at_call 36; refine (HMY.out _ (below_alloc (Below.refl _ _) _)).mono ?_; rintro e w1 ⟨rfl, hb1⟩; have HB1 := Aside0.mk (below_step (below_alloc (Below.refl _ _) _) hb1); clear hb1)
    try rw [Exit.noGoto_ret]
    go_ret2
    exact ⟨by cases HE.out; rfl, HB1.out⟩

/-! ### horariumlaw10_DemandFirst: function 10 -/
mutual
def horariumlaw10_DemandFirst.l0 : Nat → Bool → List (S28) → Int → Bool → Int → Option (Bool)
  | 0, _, _, _, _, _ => none
  | k + 1, x3, x4, x5, x6, x7 => if x7 ≤ 400 then (if x6 = true then (horariumlaw10_DemandFirst.j1 k x3 x4 x5 x6 x7 (x7 == x5)) else (horariumlaw10_DemandFirst.j1 k x3 x4 x5 x6 x7 false)) else (if x3 = true then (some (!x6)) else (some false))
def horariumlaw10_DemandFirst.j1 : Nat → Bool → List (S28) → Int → Bool → Int → Bool → Option (Bool)
  | 0, _, _, _, _, _, _ => none
  | k + 1, x3, x4, x5, x6, x7, x25 => if x25 = true then (if x3 = true then ((demand_Of.f k x4 x7).bind fun t138 => (some (decide (t138 > x7)))) else (some false)) else ((demand_Of.f k x4 x7).bind fun t139 => (if t139 > x7 then (some false) else (horariumlaw10_DemandFirst.l0 k x3 x4 x5 x6 (wrap64 (x7 + 1)))))
end
def horariumlaw10_DemandFirst.f (k : Nat) (l0 : List (S31)) : Option (Bool) := (horariumlaw10_awake.f k).bind fun t132 => ((horariumlaw10_made.f k l0).bind fun t133 => ((demand_First.f t133 400).bind fun bt136 => (horariumlaw10_DemandFirst.l0 k t132 t133 bt136.1 bt136.2 1)))
theorem horariumlaw10_DemandFirst.mono_l : ∀ k, (∀ y0 y1 y2 y3 y4, LeO (horariumlaw10_DemandFirst.l0 k y0 y1 y2 y3 y4) (horariumlaw10_DemandFirst.l0 (k + 1) y0 y1 y2 y3 y4)) ∧ (∀ y0 y1 y2 y3 y4 y5, LeO (horariumlaw10_DemandFirst.j1 k y0 y1 y2 y3 y4 y5) (horariumlaw10_DemandFirst.j1 (k + 1) y0 y1 y2 y3 y4 y5))
  | 0 => ⟨fun _ _ _ _ _ r h => by simp [horariumlaw10_DemandFirst.l0] at h, fun _ _ _ _ _ _ r h => by simp [horariumlaw10_DemandFirst.j1] at h⟩
  | k + 1 => by
    obtain ⟨ih0, ih1⟩ := horariumlaw10_DemandFirst.mono_l k
    refine ⟨?_, ?_⟩
    · intro y0 y1 y2 y3 y4
      unfold horariumlaw10_DemandFirst.l0
      repeat' first
      | (with_reducible exact ih0 _ _ _ _ _)
      | (with_reducible exact ih1 _ _ _ _ _ _)
      | (with_reducible exact demand_Of.mono _ _ _)
      | (with_reducible exact horariumlaw10_awake.mono _)
      | (with_reducible exact horariumlaw10_made.mono _ _)
      | (with_reducible exact LeO.refl _)
      | (with_reducible exact LeO.none _)
      | (with_reducible refine LeO.ite ?_ ?_)
      | (with_reducible refine LeO.bind ?_ (fun _ => ?_))
      | exact ih0 _ _ _ _ _
      | exact ih1 _ _ _ _ _ _
      | exact demand_Of.mono _ _ _
      | exact horariumlaw10_awake.mono _
      | exact horariumlaw10_made.mono _ _
      | exact LeO.none _
      | refine LeO.ite ?_ ?_
      | refine LeO.bind ?_ (fun _ => ?_)
    · intro y0 y1 y2 y3 y4 y5
      unfold horariumlaw10_DemandFirst.j1
      repeat' first
      | (with_reducible exact ih0 _ _ _ _ _)
      | (with_reducible exact ih1 _ _ _ _ _ _)
      | (with_reducible exact demand_Of.mono _ _ _)
      | (with_reducible exact horariumlaw10_awake.mono _)
      | (with_reducible exact horariumlaw10_made.mono _ _)
      | (with_reducible exact LeO.refl _)
      | (with_reducible exact LeO.none _)
      | (with_reducible refine LeO.ite ?_ ?_)
      | (with_reducible refine LeO.bind ?_ (fun _ => ?_))
      | exact ih0 _ _ _ _ _
      | exact ih1 _ _ _ _ _ _
      | exact demand_Of.mono _ _ _
      | exact horariumlaw10_awake.mono _
      | exact horariumlaw10_made.mono _ _
      | exact LeO.none _
      | refine LeO.ite ?_ ?_
      | refine LeO.bind ?_ (fun _ => ?_)
theorem horariumlaw10_DemandFirst.mono : ∀ a0 k, LeO (horariumlaw10_DemandFirst.f k a0) (horariumlaw10_DemandFirst.f (k + 1) a0) := by
  intro a0 k
  obtain ⟨ih0, ih1⟩ := horariumlaw10_DemandFirst.mono_l k
  unfold horariumlaw10_DemandFirst.f
  repeat' first
      | (with_reducible exact ih0 _ _ _ _ _)
      | (with_reducible exact ih1 _ _ _ _ _ _)
      | (with_reducible exact demand_Of.mono _ _ _)
      | (with_reducible exact horariumlaw10_awake.mono _)
      | (with_reducible exact horariumlaw10_made.mono _ _)
      | (with_reducible exact LeO.refl _)
      | (with_reducible exact LeO.none _)
      | (with_reducible refine LeO.ite ?_ ?_)
      | (with_reducible refine LeO.bind ?_ (fun _ => ?_))
      | exact ih0 _ _ _ _ _
      | exact ih1 _ _ _ _ _ _
      | exact demand_Of.mono _ _ _
      | exact horariumlaw10_awake.mono _
      | exact horariumlaw10_made.mono _ _
      | exact LeO.none _
      | refine LeO.ite ?_ ?_
      | refine LeO.bind ?_ (fun _ => ?_)
set_option maxHeartbeats 8000000 in
set_option maxRecDepth 100000 in
theorem horariumlaw10_DemandFirst.calls (k : Nat) (A0 : Option Addr) (c0 : Nat) (l0 : List (S31)) (r : Bool) (w : World) (hr0 : Kd.C k31 w A0 l0.length l0) (hc0 : l0.length ≤ c0) (h : horariumlaw10_DemandFirst.f k l0 = some r) :
    Calls Try.prog 10 #[.slice A0 l0.length c0] w fun e w' => e = .returned (.bool r) ∧ Below w.heap.size w w' := by
  have HR0 := Aside0.mk hr0
  have HC0 := Aside0.mk hc0
  clear hr0 hc0
  have HB := Aside0.mk (Below.refl w.heap.size w)
  have H : ((horariumlaw10_awake.f k).bind fun t132 => ((horariumlaw10_made.f k l0).bind fun t133 => ((demand_First.f t133 400).bind fun bt136 => (horariumlaw10_DemandFirst.l0 k t132 t133 bt136.1 bt136.2 1)))) = some r := h
  clear h
  replace H := Option.bind_eq_some_iff.mp H
  obtain ⟨t132, A20, H⟩ := H
  replace H : ((horariumlaw10_made.f k l0).bind fun t133 => ((demand_First.f t133 400).bind fun bt136 => (horariumlaw10_DemandFirst.l0 k t132 t133 bt136.1 bt136.2 1))) = some r := H
  have A2 := Aside0.mk A20
  clear A20
  replace H := Option.bind_eq_some_iff.mp H
  obtain ⟨t133, A30, H⟩ := H
  replace H : ((demand_First.f t133 400).bind fun bt136 => (horariumlaw10_DemandFirst.l0 k t132 t133 bt136.1 bt136.2 1)) = some r := H
  have A3 := Aside0.mk A30
  clear A30
  replace H := Option.bind_eq_some_iff.mp H
  obtain ⟨⟨t136, t137⟩, A40, H⟩ := H
  replace H : (horariumlaw10_DemandFirst.l0 k t132 t133 t136 t137 1) = some r := H
  have A4 := Aside0.mk A40
  clear A40
  have H' := Aside0.mk H
  clear H
  go_enter Try.func10, Try.ntmps10
  go_wp2_with (first | ((with_reducible refine gate_callee (f := 15) rfl ?_); refine goesL_ (some 8) rfl rfl Try.func15 (by kernel_rfl) rfl #[] rfl (by (try simp only [List.map_toArray, List.map_cons, List.map_nil]); first | done | rfl | (simp only [List.length_drop, List.length_take]; rfl)) ?_; (with_reducible refine (horariumlaw10_awake.calls k  t132 _ A2.out).mono ?_); rintro e w5 ⟨rfl, hb⟩; refine ⟨_, rfl, ?_⟩; have n0_ := Aside0.mk (below_step (by repeat (first | (with_reducible first | exact HB.out | apply below_alloc | apply pw_below_drewN | apply below_drew1) | exact HB.out)) hb); clear HB; have HB := n0_; clear n0_; (try clear hb); (try clear hb2); (try clear hk); (try clear hi)) | ((with_reducible refine gate_callee (f := 16) rfl ?_); refine goesL_ (some 10) rfl rfl Try.func16 (by kernel_rfl) rfl #[.slice A0 l0.length c0] rfl (by (try simp only [List.map_toArray, List.map_cons, List.map_nil]); first | done | rfl | (simp only [List.length_drop, List.length_take]; rfl)) ?_; (with_reducible refine (horariumlaw10_made.calls k _ _ l0 t133 _ ?side1 ?side2 A3.out).mono ?_); (case side1 => repeat (first | exact (Kd.C_below HR0.out HB.out) | (with_reducible refine Kd.C_alloc ?_ _) | (with_reducible refine Kd.C_drewN ?_ _) | (with_reducible refine Kd.C_drew ?_))); (case side2 => exact HC0.out); rintro e w6 ⟨v134, rfl, ho0, hb⟩; refine ⟨_, rfl, ?_⟩; have n0_ := Aside0.mk (Kd.R_lower ho0 (below_size (by repeat (first | (with_reducible first | exact HB.out | apply below_alloc | apply pw_below_drewN | apply below_drew1) | exact HB.out)))); have n1_ := Aside0.mk (below_step (by repeat (first | (with_reducible first | exact HB.out | apply below_alloc | apply pw_below_drewN | apply below_drew1) | exact HB.out)) hb); clear HB; have HO135 := n0_; have HB := n1_; clear n0_ n1_; (try clear hb); (try clear hb2); (try clear hk); (try clear hi); (try clear ho0); obtain ⟨Ao7, co7, eo7⟩ := Kd.R_slice HO135.out; subst eo7) | ((with_reducible refine gate_callee (f := 29) rfl ?_); refine goesL_ (some 13) rfl rfl Try.func29 (by kernel_rfl) rfl #[.slice Ao7 t133.length co7, .int .i64 400] rfl (by (try simp only [List.map_toArray, List.map_cons, List.map_nil]); first | done | rfl | (simp only [List.length_drop, List.length_take]; rfl)) ?_; (with_reducible refine (demand_First.calls _ _ t133 400 t136 t137 _ ?side1 ?side2 A4.out).mono ?_); (case side1 => repeat (first | exact (Kd.R_reads' HO135.out).2.2 | (with_reducible refine Kd.C_alloc ?_ _) | (with_reducible refine Kd.C_drewN ?_ _) | (with_reducible refine Kd.C_drew ?_))); (case side2 => exact (Kd.R_reads' HO135.out).2.1); rintro e w8 ⟨rfl, hb⟩; refine ⟨_, rfl, ?_⟩; have n0_ := Aside0.mk (Kd.R_below (by (with_reducible repeat (first | apply Kd.R_alloc | apply Kd.R_drewN | apply Kd.R_drew)); exact HO135.out) hb); have n1_ := Aside0.mk (below_step (by repeat (first | (with_reducible first | exact HB.out | apply below_alloc | apply pw_below_drewN | apply below_drew1) | exact HB.out)) hb); clear HO135; clear HB; have HO135 := n0_; have HB := n1_; clear n0_ n1_; (try clear hb); (try clear hb2); (try clear hk); (try clear hi)))
  go_loopg [7] k (fun kq v7 w' => ∃ (x7_1 : Int), v7 = .int .i64 x7_1 ∧ Aside0 (horariumlaw10_DemandFirst.l0 kq t132 t133 t136 t137 x7_1 = some r) ∧ Aside0 (kq ≤ k) ∧ Aside0 (Kd.R k28 28 w' w.heap.size (fun _ => True) (.slice Ao7 t133.length co7) t133) ∧ Aside0 (Below w.heap.size w w'))
  case atStart => exact ⟨(1), (by first | rfl | (simp; done) | (simp [*]; done)), H', ⟨Nat.le_refl _⟩, ⟨by (with_reducible repeat (first | apply Kd.R_alloc | apply Kd.R_drewN | apply Kd.R_drew)); exact HO135.out⟩, ⟨by repeat (first | (with_reducible first | exact HB.out | apply below_alloc | apply pw_below_drewN | apply below_drew1) | exact HB.out)⟩⟩
  case round =>
    clear H'
    try clear c1
    try clear c2
    try clear p2
    obtain ⟨x7_1, rfl, HA, HK1, HO_4, HB⟩ := hrel
    cases gk with
    | zero => exact absurd HA.out (by simp [horariumlaw10_DemandFirst.l0])
    | succ k1 =>
      have H := HA.out
      clear HA
      simp only [horariumlaw10_DemandFirst.l0] at H
      by_cases c9 : x7_1 ≤ 400
      · rw [if_pos c9] at H
        have c9b0 : decide (x7_1 ≤ 400) = true := decide_eq_true c9
        clear c9
        have HC10 := Aside0.mk H
        clear H
        go_upto_region 7 with (fail)
        go_cut [25] (fun v25 wc => ∃ (kq : Nat) (x25_9 : Bool), v25 = .bool x25_9 ∧ Aside0 (horariumlaw10_DemandFirst.j1 kq t132 t133 t136 t137 x7_1 x25_9 = some r) ∧ Aside0 (kq ≤ k1) ∧ Aside0 (Kd.R k28 28 wc w.heap.size (fun _ => True) (.slice Ao7 t133.length co7) t133) ∧ Aside0 (Below w.heap.size w wc))
        case first =>
          have H := HC10.out
          clear HC10
          by_cases c11 : t137 = true
          · subst c11
            have H1 : (horariumlaw10_DemandFirst.j1 k1 t132 t133 t136 true x7_1 (x7_1 == t136)) = some r := by rw [if_pos rfl] at H; exact H
            clear H
            have H := H1
            clear H1
            have H' := Aside0.mk H
            clear H
            go_wp2
            go_meet
            case rel => exact ⟨_, ((x7_1 == t136)), (by first | rfl | (simp; done) | (simp [*]; done)), H', ⟨by have := HK1.out; first | omega | exact Nat.le_refl _⟩, ⟨by (with_reducible repeat (first | apply Kd.R_alloc | apply Kd.R_drewN | apply Kd.R_drew)); exact HO_4.out⟩, ⟨by repeat (first | (with_reducible first | exact HB.out | apply below_alloc | apply pw_below_drewN | apply below_drew1) | exact HB.out)⟩⟩
          · replace c11 := Bool.eq_false_iff.mpr c11
            subst c11
            have H1 : (horariumlaw10_DemandFirst.j1 k1 t132 t133 t136 false x7_1 false) = some r := by rw [if_neg (show ¬ (false = true) by decide)] at H; exact H
            clear H
            have H := H1
            clear H1
            have H' := Aside0.mk H
            clear H
            go_wp2
            go_meet
            case rel => exact ⟨_, (false), (by first | rfl | (simp; done) | (simp [*]; done)), H', ⟨by have := HK1.out; first | omega | exact Nat.le_refl _⟩, ⟨by (with_reducible repeat (first | apply Kd.R_alloc | apply Kd.R_drewN | apply Kd.R_drew)); exact HO_4.out⟩, ⟨by repeat (first | (with_reducible first | exact HB.out | apply below_alloc | apply pw_below_drewN | apply below_drew1) | exact HB.out)⟩⟩
        case rest =>
          clear HC10
          try clear c1
          try clear c2
          try clear p2
          try clear c9
          try clear c9b0
          try clear c10
          try clear c11
          try clear p2
          obtain ⟨kq, x25_9, rfl, HA, HJ9, HO_4, HB⟩ := hcut
          cases kq with
          | zero => exact absurd HA.out (by simp [horariumlaw10_DemandFirst.j1])
          | succ kj9 =>
            have H := HA.out
            clear HA
            simp only [horariumlaw10_DemandFirst.j1] at H
            by_cases c12 : x25_9 = true
            · subst c12
              have H1 : (if t132 = true then ((demand_Of.f kj9 t133 x7_1).bind fun t138 => (some (decide (t138 > x7_1)))) else (some false)) = some r := by rw [if_pos rfl] at H; exact H
              clear H
              have H := H1
              clear H1
              by_cases c13 : t132 = true
              · subst c13
                have H1 : ((demand_Of.f kj9 t133 x7_1).bind fun t138 => (some (decide (t138 > x7_1)))) = some r := by rw [if_pos rfl] at H; exact H
                clear H
                have H := H1
                clear H1
                replace H := Option.bind_eq_some_iff.mp H
                obtain ⟨t138, A140, H⟩ := H
                replace H : (some (decide (t138 > x7_1))) = some r := H
                have A14 := Aside0.mk A140
                clear A140
                obtain rfl := Option.some.inj H
                go_wp2_with (first | (go_at_call 18; (with_reducible refine (demand_Of.calls kj9 _ _ t133 x7_1 t138 _ ?side1 ?side2 A14.out).mono ?_); (case side1 => repeat (first | exact (Kd.R_reads' HO_4.out).2.2 | (with_reducible refine Kd.C_alloc ?_ _) | (with_reducible refine Kd.C_drewN ?_ _) | (with_reducible refine Kd.C_drew ?_))); (case side2 => exact (Kd.R_reads' HO_4.out).2.1); rintro e w15 ⟨rfl, hb⟩; have n0_ := Aside0.mk (Kd.R_below (by (with_reducible repeat (first | apply Kd.R_alloc | apply Kd.R_drewN | apply Kd.R_drew)); exact HO_4.out) hb); have n1_ := Aside0.mk (below_step (by repeat (first | (with_reducible first | exact HB.out | apply below_alloc | apply pw_below_drewN | apply below_drew1) | exact HB.out)) hb); clear HO_4; clear HB; have HO_4 := n0_; have HB := n1_; clear n0_ n1_; (try clear hb); (try clear hb2); (try clear hk); (try clear hi)))
                go_ret
                exact ⟨by first | rfl | (simp [errW_none, errW_some] <;> rfl) | (simp [*, errW_none, errW_some] <;> rfl), by repeat (first | (with_reducible first | exact HB.out | apply below_alloc | apply pw_below_drewN | apply below_drew1) | exact HB.out)⟩
              · replace c13 := Bool.eq_false_iff.mpr c13
                subst c13
                have H1 : (some false) = some r := by rw [if_neg (show ¬ (false = true) by decide)] at H; exact H
                clear H
                have H := H1
                clear H1
                obtain rfl := Option.some.inj H
                go_wp2
                go_ret
                exact ⟨by first | rfl | (simp [errW_none, errW_some] <;> rfl) | (simp [*, errW_none, errW_some] <;> rfl), by repeat (first | (with_reducible first | exact HB.out | apply below_alloc | apply pw_below_drewN | apply below_drew1) | exact HB.out)⟩
            · replace c12 := Bool.eq_false_iff.mpr c12
              subst c12
              have H1 : ((demand_Of.f kj9 t133 x7_1).bind fun t139 => (if t139 > x7_1 then (some false) else (horariumlaw10_DemandFirst.l0 kj9 t132 t133 t136 t137 (wrap64 (x7_1 + 1))))) = some r := by rw [if_neg (show ¬ (false = true) by decide)] at H; exact H
              clear H
              have H := H1
              clear H1
              replace H := Option.bind_eq_some_iff.mp H
              obtain ⟨t139, A160, H⟩ := H
              replace H : (if t139 > x7_1 then (some false) else (horariumlaw10_DemandFirst.l0 kj9 t132 t133 t136 t137 (wrap64 (x7_1 + 1)))) = some r := H
              have A16 := Aside0.mk A160
              clear A160
              by_cases c17 : t139 > x7_1
              · rw [if_pos c17] at H
                have c17b0 : decide (x7_1 < t139) = true := decide_eq_true c17
                clear c17
                obtain rfl := Option.some.inj H
                go_wp2_with (first | ((with_reducible refine gate_callee (f := 18) rfl ?_); refine goesL_ (some 36) rfl rfl Try.func18 (by kernel_rfl) rfl #[.slice Ao7 t133.length co7, .int .i64 x7_1] rfl (by (try simp only [List.map_toArray, List.map_cons, List.map_nil]); first | done | rfl | (simp only [List.length_drop, List.length_take]; rfl)) ?_; (with_reducible refine (demand_Of.calls kj9 _ _ t133 x7_1 t139 _ ?side1 ?side2 A16.out).mono ?_); (case side1 => repeat (first | exact (Kd.R_reads' HO_4.out).2.2 | (with_reducible refine Kd.C_alloc ?_ _) | (with_reducible refine Kd.C_drewN ?_ _) | (with_reducible refine Kd.C_drew ?_))); (case side2 => exact (Kd.R_reads' HO_4.out).2.1); rintro e w18 ⟨rfl, hb⟩; refine ⟨_, rfl, ?_⟩; have n0_ := Aside0.mk (Kd.R_below (by (with_reducible repeat (first | apply Kd.R_alloc | apply Kd.R_drewN | apply Kd.R_drew)); exact HO_4.out) hb); have n1_ := Aside0.mk (below_step (by repeat (first | (with_reducible first | exact HB.out | apply below_alloc | apply pw_below_drewN | apply below_drew1) | exact HB.out)) hb); clear HO_4; clear HB; have HO_4 := n0_; have HB := n1_; clear n0_ n1_; (try clear hb); (try clear hb2); (try clear hk); (try clear hi)))
                go_ret
                exact ⟨by first | rfl | (simp [errW_none, errW_some] <;> rfl) | (simp [*, errW_none, errW_some] <;> rfl), by repeat (first | (with_reducible first | exact HB.out | apply below_alloc | apply pw_below_drewN | apply below_drew1) | exact HB.out)⟩
              · rw [if_neg c17] at H
                have c17b0 : decide (x7_1 < t139) = false := decide_eq_false c17
                clear c17
                have H' := Aside0.mk H
                clear H
                go_wp2_with (first | ((with_reducible refine gate_callee (f := 18) rfl ?_); refine goesL_ (some 36) rfl rfl Try.func18 (by kernel_rfl) rfl #[.slice Ao7 t133.length co7, .int .i64 x7_1] rfl (by (try simp only [List.map_toArray, List.map_cons, List.map_nil]); first | done | rfl | (simp only [List.length_drop, List.length_take]; rfl)) ?_; (with_reducible refine (demand_Of.calls kj9 _ _ t133 x7_1 t139 _ ?side1 ?side2 A16.out).mono ?_); (case side1 => repeat (first | exact (Kd.R_reads' HO_4.out).2.2 | (with_reducible refine Kd.C_alloc ?_ _) | (with_reducible refine Kd.C_drewN ?_ _) | (with_reducible refine Kd.C_drew ?_))); (case side2 => exact (Kd.R_reads' HO_4.out).2.1); rintro e w19 ⟨rfl, hb⟩; refine ⟨_, rfl, ?_⟩; have n0_ := Aside0.mk (Kd.R_below (by (with_reducible repeat (first | apply Kd.R_alloc | apply Kd.R_drewN | apply Kd.R_drew)); exact HO_4.out) hb); have n1_ := Aside0.mk (below_step (by repeat (first | (with_reducible first | exact HB.out | apply below_alloc | apply pw_below_drewN | apply below_drew1) | exact HB.out)) hb); clear HO_4; clear HB; have HO_4 := n0_; have HB := n1_; clear n0_ n1_; (try clear hb); (try clear hb2); (try clear hk); (try clear hi)))
                go_roundg kj9
                case measure => have := HK1.out; have := HJ9.out; omega
                case rel => exact ⟨(wrap64 (x7_1 + 1)), (by first | rfl | (simp; done) | (simp [*]; done)), H', ⟨by have := HK1.out; have := HJ9.out; omega⟩, ⟨by (with_reducible repeat (first | apply Kd.R_alloc | apply Kd.R_drewN | apply Kd.R_drew)); exact HO_4.out⟩, ⟨by repeat (first | (with_reducible first | exact HB.out | apply below_alloc | apply pw_below_drewN | apply below_drew1) | exact HB.out)⟩⟩
      · rw [if_neg c9] at H
        have c9b0 : decide (x7_1 ≤ 400) = false := decide_eq_false c9
        clear c9
        by_cases c20 : t132 = true
        · subst c20
          have H1 : (some (!t137)) = some r := by rw [if_pos rfl] at H; exact H
          clear H
          have H := H1
          clear H1
          obtain rfl := Option.some.inj H
          go_wp2
          go_ret
          exact ⟨by first | rfl | (simp [errW_none, errW_some] <;> rfl) | (simp [*, errW_none, errW_some] <;> rfl), by repeat (first | (with_reducible first | exact HB.out | apply below_alloc | apply pw_below_drewN | apply below_drew1) | exact HB.out)⟩
        · replace c20 := Bool.eq_false_iff.mpr c20
          subst c20
          have H1 : (some false) = some r := by rw [if_neg (show ¬ (false = true) by decide)] at H; exact H
          clear H
          have H := H1
          clear H1
          obtain rfl := Option.some.inj H
          go_wp2
          go_ret
          exact ⟨by first | rfl | (simp [errW_none, errW_some] <;> rfl) | (simp [*, errW_none, errW_some] <;> rfl), by repeat (first | (with_reducible first | exact HB.out | apply below_alloc | apply pw_below_drewN | apply below_drew1) | exact HB.out)⟩

def WF31 (x : S31) : Prop := (Lit.int .i64 x.f0).wf = true ∧ (Lit.int .i64 x.f1).wf = true ∧ (Lit.int .i64 x.f2).wf = true
theorem openk31 {H : Type} {enc : TypeId × Value → H} {W : World} {base : Nat} {spare : Nat → Bool} {held : Bool} {m : Nat} {cs : List Value} {x : DataW H × List MemPlace} (h : DataW.trod enc Try.prog W base spare held m 31 cs = some x) : ∃ y : S31, cs = [.int .i64 y.f0, .int .i64 y.f1, .int .i64 y.f2] ∧ WF31 y := by
  obtain ⟨xs, n, _, _, hl, hx, hf⟩ := DataW.trod_array Try.underlying31 h
  rw [show Try.prog.cellsOf 31 = 3 from by kernel_rfl] at hl
  obtain ⟨c0, c1, c2, rfl⟩ : ∃ c0 c1 c2, cs = [c0, c1, c2] := by match cs, hl with | [c0, c1, c2], _ => exact ⟨c0, c1, c2, rfl⟩
  obtain ⟨y0, y1, y2, rfl⟩ : ∃ y0 y1 y2, xs = [y0, y1, y2] := by match xs, hx with | [y0, y1, y2], _ => exact ⟨y0, y1, y2, rfl⟩
  have g0 := hf 0 (by omega)
  rw [show Try.prog.cellsOf 3 = 1 from by kernel_rfl] at g0
  obtain ⟨v0, q0, _, w0⟩ := DataW.trod_int (cs := [c0]) (x := y0) Try.underlying3 g0
  simp only [List.cons.injEq, and_true] at q0
  subst q0
  have g1 := hf 1 (by omega)
  rw [show Try.prog.cellsOf 3 = 1 from by kernel_rfl] at g1
  obtain ⟨v1, q1, _, w1⟩ := DataW.trod_int (cs := [c1]) (x := y1) Try.underlying3 g1
  simp only [List.cons.injEq, and_true] at q1
  subst q1
  have g2 := hf 2 (by omega)
  rw [show Try.prog.cellsOf 3 = 1 from by kernel_rfl] at g2
  obtain ⟨v2, q2, _, w2⟩ := DataW.trod_int (cs := [c2]) (x := y2) Try.underlying3 g2
  simp only [List.cons.injEq, and_true] at q2
  subst q2
  refine ⟨⟨v0, v1, v2⟩, rfl, ?_⟩
  unfold WF31
  exact ⟨w0, w1, w2⟩
theorem addr_add_add (a : Addr) (i j : Nat) : (a.add i).add j = a.add (i + j) := by
  unfold Addr.add
  by_cases hi : i = 0 <;> by_cases hj : j = 0 <;> simp [hi, hj, Nat.add_assoc]
theorem rowsk31 {H : Type} {enc : TypeId × Value → H} {W : World} {base : Nat} {spare : Nat → Bool} {held : Bool} {t : Nat} {a : Option Addr} {len cap : Nat} {d : DataW H} {ps : List MemPlace} (hu : Try.prog.underlying t = some (.slice 31)) (h : DataW.Trod enc Try.prog W base spare held t (.slice a len cap) d ps) : ∃ l : List S31, l.length = len ∧ Kd.C k31 W a l.length l ∧ l.length ≤ cap ∧ ∀ x ∈ l, WF31 x := by
  obtain ⟨fuel, hf⟩ := h
  rcases Go.Deep.open_slice hu hf with ⟨hcs, _⟩ | ⟨x, l, c, m, n, D, Pl, hcs, hb, hl, hm, hmm, _, hel⟩
  · simp [Value.cells] at hcs
    obtain ⟨rfl, rfl, rfl⟩ := hcs
    exact ⟨[], rfl, Kd.C_nil _ _, Nat.le_refl _, by simp⟩
  · simp [Value.cells] at hcs
    obtain ⟨rfl, rfl, rfl⟩ := hcs
    have hle : len ≤ m := by rw [hmm]; split <;> omega
    rw [show Try.prog.cellsOf 31 = 3 from by kernel_rfl] at hel
    have hc : ∀ i, i < len → ∃ y : S31, W.cells? base (x.add (i * 3)) 3 = some [.int .i64 y.f0, .int .i64 y.f1, .int .i64 y.f2] ∧ WF31 y := by
      intro i hi
      obtain ⟨cs', h1, h2⟩ := hel i (by omega)
      obtain ⟨y, rfl, wy⟩ := openk31 h2
      exact ⟨y, h1, wy⟩
    haveI : Inhabited S31 := ⟨z31⟩
    obtain ⟨Y, hY⟩ := Go.Deep.choose_lt hc
    have hlen : ((List.range len).map Y).length = len := by simp
    refine ⟨(List.range len).map Y, hlen, ⟨rfl, by unfold maxLen at hm; omega, fun _ => ⟨x, rfl, fun j p hj => ?_⟩⟩, by omega, ?_⟩
    · obtain ⟨hj1, hj2⟩ := List.getElem?_eq_some_iff.1 hj
      have hj3 : j < len := by omega
      have hp : p = Y j := by rw [← hj2]; simp
      subst hp
      obtain ⟨h1, _⟩ := hY j hj3
      obtain ⟨_, _, h2⟩ := World.cells?_some h1
      refine ⟨[.int .i64 (Y j).f0, .int .i64 (Y j).f1, .int .i64 (Y j).f2], rfl, k31_mk _ _, fun i u hu => ?_⟩
      have hi : i < 3 := (List.getElem?_eq_some_iff.1 hu).1
      have h3 := h2 i hi
      rw [hu, addr_add_add] at h3
      exact h3
    · intro y hy
      obtain ⟨i, hi, rfl⟩ := List.mem_map.1 hy
      exact (hY i (by simpa using hi)).2
theorem sizedk31 {H : Type} {enc : TypeId × Value → H} {W : World} {base : Nat} {spare : Nat → Bool} {held : Bool} {t : Nat} {a : Option Addr} {len cap : Nat} {d : DataW H} {ps : List MemPlace} {ts : List TypeId} {ds : List (DataW H)} {j : Nat}
    (hsz : (DataW.weightsEach Try.prog ts ds).all (· ≤ reachBytes) = true) (ht : ts[j]? = some t) (hd : ds[j]? = some d) (hu : Try.prog.underlying t = some (.slice 31)) (h : DataW.Trod enc Try.prog W base spare held t (.slice a len cap) d ps) : len * 24 ≤ 140737488351232 := by
  obtain ⟨fuel, hf⟩ := h
  rcases Go.Deep.open_slice hu hf with ⟨hcs, _⟩ | ⟨x, l, c, m, n, D, Pl, hcs, hb, hl, hm, hmm, hx, hel⟩
  · simp [Value.cells] at hcs
    obtain ⟨rfl, rfl, rfl⟩ := hcs
    simp
  · simp [Value.cells] at hcs
    obtain ⟨rfl, rfl, rfl⟩ := hcs
    obtain ⟨rfl, _⟩ := Prod.mk.inj hx
    have z := sized_slice hsz ht hd hu
    rw [show Try.prog.bytesOf 31 = 24 from by kernel_rfl, List.length_map, List.length_range] at z
    exact Nat.le_trans (Nat.mul_le_mul_right _ (Nat.le_add_right _ _)) z
/-- THE ONE PURE STATEMENT of horariumlaw10_DemandFirst. -/
def horariumlaw10_DemandFirst.Pure : Prop := ∀ (l0 : List (S31)), l0.length * 24 ≤ 140737488351232 → (∀ x ∈ l0, WF31 x) → ∃ k, horariumlaw10_DemandFirst.f k l0 = some true
theorem horariumlaw10_DemandFirst.walk (P : horariumlaw10_DemandFirst.Pure) (A0 : Option Addr) (c0 : Nat) (l0 : List (S31)) (w : World) (hr0 : Kd.C k31 w A0 l0.length l0) (hc0 : l0.length ≤ c0) (y0 : l0.length * 24 ≤ 140737488351232) (w0 : (∀ x ∈ l0, WF31 x)) :
    Calls Try.prog 10 #[.slice A0 l0.length c0] w fun e w' => e = .returned (.bool true) ∧ Below w.heap.size w w' := by
  obtain ⟨k, h⟩ := P l0 y0 w0
  refine (horariumlaw10_DemandFirst.calls k A0 c0 l0 true w hr0 hc0 h).mono ?_
  rintro e w' ⟨rfl, hd⟩
  exact ⟨rfl, hd⟩

end Go.Proofs.Ytaifojmlbbaabaa.PDemandFirst
