/- BusyLengths, the plain part: the length, and the steps to it, are those of the document. -/
import Derived.Test.YthiepacmdlgajaaPBusyLengthsx5
import Derived.Test.YthiepacmdlgajaaMRangeX
import Derived.Test.YthiepacmdlgajaaMDem
import Derived.Test.YthiepacmdlgajaaMWork
import Derived.Test.YthiepacmdlgajaaMLcm
import Derived.Test.YthiepacmdlgajaaMBusy

namespace Go.Proofs.Ythiepacmdlgajaa.Pure
open Go.RowKit Go.Proofs.Ythiepacmdlgajaa.PBusyLengths Go.Proofs.YthiepacmdlgajaaW.PrintWords Go.Proofs.YthiepacmdlgajaaW.PrintLast Go.Proofs.YthiepacmdlgajaaW.PrintMore
set_option linter.unusedVariables false
set_option linter.unusedSimpArgs false

theorem gcd_loop (k : Nat) : ∀ a b : Int, -9223372036854775807 ≤ a → a ≤ 9223372036854775807 → -9223372036854775807 ≤ b → b ≤ 9223372036854775807 → b.natAbs < k → param_Gcd.l0 k a b = some ((Int.gcd a b : Nat) : Int) := by
  induction k with
  | zero => intro a b _ _ _ _ h; omega
  | succ k ih =>
    intro a b ha1 ha2 hb1 hb2 hk
    simp only [param_Gcd.l0]
    by_cases h : b = 0
    · subst h
      rw [if_pos rfl, Int.gcd_zero_right, w64 (by omega) (by omega)]
      unfold mx
      congr 1
      split <;> omega
    · rw [if_neg h]
      have e : (Int.tmod a b).natAbs = a.natAbs % b.natAbs := Int.natAbs_tmod a b
      have hl : a.natAbs % b.natAbs < b.natAbs := Nat.mod_lt _ (by omega)
      rw [ih b (Int.tmod a b) hb1 hb2 (by omega) (by omega) (by omega)]
      congr 2
      rw [Int.gcd_eq_natAbs_gcd_natAbs, Int.gcd_eq_natAbs_gcd_natAbs, e, Nat.gcd_comm a.natAbs b.natAbs, Nat.gcd_rec b.natAbs a.natAbs, Nat.gcd_comm]
theorem Gcd_is (k : Nat) {a b : Int} (ha1 : -9223372036854775807 ≤ a) (ha2 : a ≤ 9223372036854775807) (hb1 : -9223372036854775807 ≤ b) (hb2 : b ≤ 9223372036854775807) (hk : b.natAbs < k) : param_Gcd.f k a b = some ((Int.gcd a b : Nat) : Int) :=
  gcd_loop k a b ha1 ha2 hb1 hb2 hk

theorem per_go (k : Nat) (hk : 2147483648 < k) (l : List S28) : ∀ (m : Nat), 0 < m → m ≤ 1048576 → (∀ s ∈ l, (tk s).ok) →
    period.go k l (m : Int) = some (if Hm.perFrom m (l.map fun s => s.f3.toNat) ≤ 1048576 then ((Hm.perFrom m (l.map fun s => s.f3.toNat) : Nat) : Int) else 0, if Hm.perFrom m (l.map fun s => s.f3.toNat) ≤ 1048576 then 0 else 16) := by
  induction l with
  | nil => intro m h0 h1 _; simp [period.go, Hm.perFrom, h1]
  | cons s l ih =>
    intro m h0 h1 hok
    obtain ⟨_, _, h2, h3, h4, h5, _, _⟩ := hok s (by simp)
    simp only [tk] at h2 h3 h4 h5
    obtain ⟨t, ht⟩ : ∃ t : Nat, s.f3 = (t : Int) := ⟨s.f3.toNat, by omega⟩
    unfold period.go
    rw [ht, Gcd_is k (by omega) (by omega) (by omega) (by omega) (by omega)]
    simp only [Option.bind_some]
    have hg : Int.gcd (m : Int) (t : Int) = Nat.gcd m t := by simp [Int.gcd_eq_natAbs_gcd_natAbs]
    rw [hg]
    have hgp : 0 < Nat.gcd m t := Nat.gcd_pos_of_pos_left t h0
    rw [if_neg (by omega)]
    have e1 : Int.tdiv (t : Int) ((Nat.gcd m t : Nat) : Int) = ((t / Nat.gcd m t : Nat) : Int) := by rw [Int.tdiv_eq_ediv_of_nonneg (by omega)]; exact (Int.natCast_ediv t (Nat.gcd m t)).symm
    have hq : t / Nat.gcd m t ≤ t := Nat.div_le_self _ _
    rw [e1, w64 (n := ((t / Nat.gcd m t : Nat) : Int)) (by have := Int.natCast_nonneg (t / Nat.gcd m t); omega) (by have : ((t / Nat.gcd m t : Nat) : Int) ≤ (t : Int) := Int.ofNat_le.2 hq; omega)]
    have e2 : (m : Int) * ((t / Nat.gcd m t : Nat) : Int) = ((Nat.lcm m t : Nat) : Int) := by rw [← Hm.mul_quo_gcd (m := m) (t := t) (by omega)]; simp
    have hlcm : Nat.lcm m t ≤ 1048576 * 2147483648 := by
      rw [← Hm.mul_quo_gcd (m := m) (t := t) (by omega)]
      exact Nat.mul_le_mul h1 (by omega)
    rw [e2, w64 (by omega) (by omega)]
    have e3 : (s :: l).map (fun s => s.f3.toNat) = t :: l.map (fun s => s.f3.toNat) := by simp [ht]
    rw [e3]
    rw [show Hm.perFrom m (t :: l.map fun s => s.f3.toNat) = Hm.perFrom (Nat.lcm m t) (l.map fun s => s.f3.toNat) from rfl]
    have hlp : 0 < Nat.lcm m t := Nat.lcm_pos h0 (by omega)
    by_cases hle : Nat.lcm m t ≤ 1048576
    · rw [if_pos (by omega)]
      exact ih (Nat.lcm m t) hlp hle (fun x hx => hok x (by simp [hx]))
    · have hbig : ¬ Hm.perFrom (Nat.lcm m t) (l.map fun s => s.f3.toNat) ≤ 1048576 := by
        have hpos : 0 < Hm.perFrom (Nat.lcm m t) (l.map fun s => s.f3.toNat) := Hm.perFrom_pos hlp (fun x hx => by
          obtain ⟨y, hy, rfl⟩ := List.mem_map.1 hx
          obtain ⟨_, _, g2, g3, g4, _⟩ := hok y (by simp [hy])
          simp only [tk] at g2 g3 g4
          omega)
        have := Nat.le_of_dvd hpos (Hm.perFrom_start (Nat.lcm m t) (l.map fun s => s.f3.toNat))
        omega
      rw [if_neg (by omega), if_neg hbig, if_neg hbig]
theorem per_map (l : List S28) : Hm.per (l.map tk) = Hm.perFrom 1 (l.map fun s => s.f3.toNat) := by
  unfold Hm.per; rw [List.map_map]; rfl
theorem Period_ok {l : List S28} (k : Nat) (h : okL l) (hk : 2147483648 < k) (hp : Hm.per (l.map tk) ≤ 1048576) : param_Period.f k l = some ((Hm.per (l.map tk) : Int), 0) := by
  unfold param_Period.f
  rw [row_yes h]; simp only [Option.bind_some, if_true]
  have e := per_go k hk l 1 (by omega) (by omega) h.2
  rw [← per_map] at e
  rw [if_pos hp, if_pos hp] at e
  exact e
theorem Period_over {l : List S28} (k : Nat) (h : okL l) (hk : 2147483648 < k) (hp : ¬ Hm.per (l.map tk) ≤ 1048576) : param_Period.f k l = some (0, 16) := by
  unfold param_Period.f
  rw [row_yes h]; simp only [Option.bind_some, if_true]
  have e := per_go k hk l 1 (by omega) (by omega) h.2
  rw [← per_map] at e
  rw [if_neg hp, if_neg hp] at e
  exact e
theorem Period_arg {l : List S28} (k : Nat) (h : ¬ okL l) : param_Period.f k l = some (0, 1) := by
  unfold param_Period.f
  rw [row_no h]; rfl

theorem load_loop {p : Int} (h0 : 0 < p) (h1 : p ≤ 1048576) (suf : List S28) : ∀ (pre : List S28) (k : Nat) (acc : Int), okL (pre ++ suf) → suf.length < k → 0 ≤ acc → acc ≤ (pre.length : Int) * 1048576 →
    param_Load.l0 k p acc (pre ++ suf) ((pre ++ suf).length : Int) (pre.length : Int) = some (acc + Hm.loadN (suf.map tk) p, p, 0) := by
  induction suf with
  | nil =>
    intro pre k acc _ hk _ _
    obtain ⟨k, rfl⟩ := some_k hk
    simp only [param_Load.l0, List.append_nil, List.map_nil, Hm.loadN]
    rw [if_neg (by omega)]; simp
  | cons s suf ih =>
    intro pre k acc hok hk ha hb
    obtain ⟨k, rfl⟩ := some_k (show 0 < k by omega)
    have hs : (tk s).ok := hok.2 s (by simp)
    have hw := Hm.load_le hs (p := p) (by omega)
    have hlen := hok.1
    simp only [List.length_append, List.length_cons] at hlen hk
    have hc : (tk s).c = s.f1 := rfl
    have ht : (tk s).t = s.f3 := rfl
    rw [hc, ht] at hw
    obtain ⟨_, _, h2, h3, h4, h5, _, _⟩ := hs
    simp only [tk] at h2 h3 h4 h5
    have i1 : ((pre ++ s :: suf).length : Int) = (pre.length : Int) + ((suf.length : Int) + 1) := by simp
    have i2 := ih (pre ++ [s]) k (acc + s.f1 * (p / s.f3)) (by simpa using hok) (by omega) (by omega) (by simp only [List.length_append, List.length_singleton]; omega)
    simp only [List.append_assoc, List.cons_append, List.nil_append] at i2
    have i3 : ((pre ++ [s]).length : Int) = (pre.length : Int) + 1 := by simp
    rw [i3] at i2
    have hq := Int.ediv_nonneg (show 0 ≤ p by omega) (show 0 ≤ s.f3 by omega)
    have hq2 := Int.ediv_le_self s.f3 (show 0 ≤ p by omega)
    simp only [param_Load.l0]
    rw [if_pos (by omega), if_pos (by omega), if_pos (by omega), rd_mid, if_neg (by omega), Int.tdiv_eq_ediv_of_nonneg (by omega), w64 (n := p / s.f3) (by omega) (by omega)]
    rw [w64 (n := s.f1 * (p / s.f3)) (by omega) (by omega), w64 (n := acc + s.f1 * (p / s.f3)) (by omega) (by omega), w64 (n := (pre.length : Int) + 1) (by omega) (by omega), i2]
    simp only [List.map_cons, Hm.loadN, hc, ht]
    congr 2; omega
theorem Load_ok {l : List S28} (k : Nat) (h : okL l) (hk : 2147483648 < k) (hp : Hm.per (l.map tk) ≤ 1048576) : param_Load.f k l = some (Hm.loadN (l.map tk) (Hm.per (l.map tk) : Int), (Hm.per (l.map tk) : Int), 0) := by
  unfold param_Load.f
  rw [Period_ok k h hk hp]; simp only [Option.bind_some]
  have hpos := Hm.per_pos (okL_map h)
  have hl := h.1
  have := load_loop (p := (Hm.per (l.map tk) : Int)) (by omega) (by omega) l [] k 0 (by simpa using h) (by omega) (by omega) (by simp)
  simpa using this
theorem Load_over {l : List S28} (k : Nat) (h : okL l) (hk : 2147483648 < k) (hp : ¬ Hm.per (l.map tk) ≤ 1048576) : param_Load.f k l = some (0, 0, 16) := by
  unfold param_Load.f
  rw [Period_over k h hk hp]; rfl
theorem Load_arg {l : List S28} (k : Nat) (h : ¬ okL l) : param_Load.f k l = some (0, 0, 1) := by
  unfold param_Load.f
  rw [Period_arg k h]; rfl

theorem Over_ok {l : List S28} (k : Nat) (h : okL l) (hk : 2147483648 < k) (hp : Hm.per (l.map tk) ≤ 1048576) : param_Over.f k l = some (decide (Hm.loadN (l.map tk) (Hm.per (l.map tk) : Int) > (Hm.per (l.map tk) : Int)), 0) := by
  unfold param_Over.f; rw [Load_ok k h hk hp]; rfl
theorem right_fits {l : List S28} (k : Nat) (h : okL l) (hk : 2147483648 < k) (hp : Hm.per (l.map tk) ≤ 1048576) (hf : Hm.loadN (l.map tk) (Hm.per (l.map tk) : Int) ≤ (Hm.per (l.map tk) : Int)) : busy_right.f k l = some 0 := by
  unfold busy_right.f; rw [Over_ok k h hk hp]; simp only [Option.bind_some, if_true]
  rw [if_neg (by simp; omega)]
theorem right_over {l : List S28} (k : Nat) (h : okL l) (hk : 2147483648 < k) (hp : Hm.per (l.map tk) ≤ 1048576) (hf : Hm.loadN (l.map tk) (Hm.per (l.map tk) : Int) > (Hm.per (l.map tk) : Int)) : busy_right.f k l = some 17 := by
  unfold busy_right.f; rw [Over_ok k h hk hp]; simp only [Option.bind_some, if_true]
  rw [if_pos (by simp; omega)]
theorem right_long {l : List S28} (k : Nat) (h : okL l) (hk : 2147483648 < k) (hp : ¬ Hm.per (l.map tk) ≤ 1048576) : busy_right.f k l = some 16 := by
  unfold busy_right.f param_Over.f; rw [Load_over k h hk hp]; rfl
theorem right_arg {l : List S28} (k : Nat) (h : ¬ okL l) : busy_right.f k l = some 1 := by
  unfold busy_right.f param_Over.f; rw [Load_arg k h]; rfl
theorem lastV_cons {x : Int} {xs : List Int} (h : xs ≠ []) : lastV (x :: xs) = lastV xs := by
  unfold lastV; cases xs with
  | nil => exact absurd rfl h
  | cons y ys => rfl
theorem sumF_is {l : List S28} (h : okL l) : sumF l = Hm.sumC (l.map tk) := by
  have key : ∀ (pre suf : List S28), l = pre ++ suf → sumF pre = Hm.sumC (pre.map tk) := by
    intro pre
    generalize hn : pre.length = n
    induction n generalizing pre with
    | zero => intro suf _; have : pre = [] := List.length_eq_zero_iff.1 hn; subst this; rfl
    | succ n ih =>
      intro suf e
      obtain ⟨p, s, rfl⟩ : ∃ p s, pre = p ++ [s] := ⟨pre.dropLast, pre.getLast (by intro h; simp [h] at hn), (List.dropLast_concat_getLast _).symm⟩
      have h1 := ih p (by simpa using hn) (s :: suf) (by simpa using e)
      have h2 : ∀ t ∈ (p ++ [s]).map tk, t.ok := fun t ht => by
        obtain ⟨y, hy, rfl⟩ := List.mem_map.1 ht; exact h.2 y (by rw [e]; exact List.mem_append_left _ hy)
      have h3 := Hm.sumC_le h2
      have hlen := h.1
      rw [e] at hlen
      simp only [List.length_append, List.length_map, List.length_cons, List.length_nil] at hlen h3
      have e2 : Hm.sumC ((p ++ [s]).map tk) = Hm.sumC (p.map tk) + s.f1 := by rw [List.map_append, Hm.sumC_append]; simp [Hm.sumC, tk]
      rw [sumF_snoc, h1, e2, w64 (by omega) (by omega)]
  exact key l [] (by simp)
theorem steps_fix {l : List S28} (hok : okL l) {P : Int} (hP1 : P ≤ 1099511627776) (hP : Hm.work (l.map tk) P ≤ P) : ∀ (k : Nat) (x : Int), (P - x).toNat < k → 0 ≤ x → x ≤ P → x ≤ Hm.work (l.map tk) x →
    ∃ xs, stepsL l k x = some xs ∧ xs ≠ [] ∧ Hm.work (l.map tk) (lastV xs) = lastV xs ∧ x ≤ lastV xs ∧ lastV xs ≤ P ∧ ∀ y, x ≤ y → y < lastV xs → y < Hm.work (l.map tk) y := by
  intro k
  induction k with
  | zero => intro x h; omega
  | succ k ih =>
    intro x hk h0 h1 h2
    have hv := workV_yes hok h0 (show x ≤ 1099511627776 by omega)
    have hm := Hm.work_mono (okL_map hok) h1
    unfold stepsL
    rw [hv]
    by_cases he : Hm.work (l.map tk) x = x
    · rw [if_pos he]
      exact ⟨[x], rfl, by simp, he, Int.le_refl _, h1, fun y hy1 hy2 => by have e : lastV [x] = x := rfl; omega⟩
    · rw [if_neg he]
      obtain ⟨xs, e1, e2, e3, e4, e5, e6⟩ := ih (Hm.work (l.map tk) x) (by omega) (by omega) (by omega) (Hm.work_mono (okL_map hok) h2)
      rw [e1]
      refine ⟨x :: xs, rfl, by simp, ?_⟩
      rw [lastV_cons e2]
      refine ⟨e3, by omega, e5, fun y hy1 hy2 => ?_⟩
      by_cases hy : Hm.work (l.map tk) x ≤ y
      · exact e6 y hy hy2
      · have := Hm.work_mono (okL_map hok) hy1; omega
/-- The length, where tasks fit. -/
theorem Length_fits {l : List S28} (k : Nat) (h : okL l) (hk : 2147483648 < k) (hl : l ≠ []) (hp : Hm.per (l.map tk) ≤ 1048576) (hf : Hm.loadN (l.map tk) (Hm.per (l.map tk) : Int) ≤ (Hm.per (l.map tk) : Int)) :
    ∃ n, busy_Length.f k l = some (n, 0) ∧ Hm.work (l.map tk) n = n ∧ 1 ≤ n ∧ n ≤ (Hm.per (l.map tk) : Int) ∧ ∀ y, 1 ≤ y → y < n → y < Hm.work (l.map tk) y := by
  have hpos := Hm.per_pos (okL_map h)
  have hlen := List.length_pos_iff.2 hl
  have hS := Hm.sumC_le (okL_map h)
  rw [List.length_map] at hS
  have h16 := h.1
  have hW := Hm.work_load (okL_map h) (p := (Hm.per (l.map tk) : Int)) (fun t ht => Hm.per_dvd (okL_map h) ht)
  have h1 := Hm.work_one (okL_map h)
  have hm1 := Hm.work_mono (okL_map h) (show (1 : Int) ≤ (Hm.per (l.map tk) : Int) by omega)
  have hm2 := Hm.work_mono (okL_map h) (show (1 : Int) ≤ Hm.sumC (l.map tk) by omega)
  obtain ⟨xs, e1, e2, e3, e4, e5, e6⟩ := steps_fix h (P := (Hm.per (l.map tk) : Int)) (by omega) (by omega) k (Hm.sumC (l.map tk)) (by omega) (by omega) (by omega) (by omega)
  refine ⟨lastV xs, ?_, e3, by omega, e5, fun y hy1 hy2 => ?_⟩
  · unfold busy_Length.f
    rw [right_fits k h hk hp hf]; simp only [Option.bind_some, if_true]
    rw [if_neg hl, sumF_is h, e1]; rfl
  · by_cases hy : Hm.sumC (l.map tk) ≤ y
    · exact e6 y hy hy2
    · have := Hm.work_mono (okL_map h) hy1; omega
theorem Length_none (k : Nat) (hk : 2147483648 < k) : busy_Length.f k [] = some (0, 0) := by
  have h : okL [] := ⟨by simp, by simp⟩
  unfold busy_Length.f
  rw [right_fits k h hk (by simp [Hm.per, Hm.perFrom]) (by simp [Hm.per, Hm.perFrom, Hm.loadN])]; rfl
theorem Length_over {l : List S28} (k : Nat) (h : okL l) (hk : 2147483648 < k) (hp : Hm.per (l.map tk) ≤ 1048576) (hf : Hm.loadN (l.map tk) (Hm.per (l.map tk) : Int) > (Hm.per (l.map tk) : Int)) : busy_Length.f k l = some (0, 17) := by
  unfold busy_Length.f
  rw [right_over k h hk hp hf]; rfl

theorem rcheck_is (s : S28) : horariumref09_Check.f s.f0 s.f1 s.f2 s.f3 s.f4 = some (taskB s) := by
  have e : taskB s = true ↔ (tk s).ok := taskB_ok s
  unfold Hm.Tk.ok tk at e
  simp only at e
  unfold horariumref09_Check.f
  by_cases h : taskB s = true
  · obtain ⟨h1, h2, h3, h4, h5, h6, h7, h8⟩ := e.1 h
    rw [h, if_pos (by omega), if_pos (by omega), if_pos (by omega), if_pos (by omega), if_pos (by omega), if_pos (by omega), if_pos (by omega), decide_eq_true h8]
  · have hf : taskB s = false := Bool.eq_false_iff.2 h
    rw [hf]
    repeat' split
    all_goals first | rfl | skip
    all_goals (congr 1; rw [decide_eq_false_iff_not]; intro h8; exact h (e.2 ⟨by omega, by omega, by omega, by omega, by omega, by omega, by omega, h8⟩))

theorem rrow_loop (suf : List S28) : ∀ (pre : List S28) (k : Nat), (∀ s ∈ suf, (tk s).ok) → ((pre ++ suf).length : Int) ≤ 16 → suf.length < k → horariumref09_Row.l0 k (pre ++ suf) (pre.length : Int) = some true := by
  induction suf with
  | nil =>
    intro pre k _ hlen hk
    obtain ⟨k, rfl⟩ := some_k hk
    simp only [horariumref09_Row.l0, List.append_nil] at hlen ⊢
    rw [if_neg (by omega), decide_eq_true hlen]
  | cons s suf ih =>
    intro pre k hok hlen hk
    obtain ⟨k, rfl⟩ := some_k (show 0 < k by omega)
    have i1 : ((pre ++ s :: suf).length : Int) = (pre.length : Int) + ((suf.length : Int) + 1) := by simp
    have i2 := ih (pre ++ [s]) k (fun x hx => hok x (by simp [hx])) (by simpa using hlen) (by simp at hk; omega)
    simp only [List.append_assoc, List.cons_append, List.nil_append] at i2
    rw [show ((pre ++ [s]).length : Int) = (pre.length : Int) + 1 from by simp] at i2
    simp only [horariumref09_Row.l0]
    rw [if_pos (by omega), if_pos (by omega), rd_mid, rcheck_is, (taskB_ok s).2 (hok s (by simp))]
    simp only [Option.bind_some, if_true]
    rw [w64 (by omega) (by omega)]
    exact i2
theorem rrow_yes {l : List S28} (k : Nat) (h : okL l) (hk : 16 < k) : horariumref09_Row.f k l = some true := by
  have hl := h.1
  have := rrow_loop l [] k h.2 (by simp; omega) (by omega)
  exact this
theorem rgcd_is : ∀ (k : Nat) (a b : Int), 0 ≤ a → 0 ≤ b → b ≤ 9223372036854775807 → a ≤ 9223372036854775807 → b.toNat < k → horariumref09_Gcd.f k a b = some ((Int.gcd a b : Nat) : Int) := by
  intro k
  induction k with
  | zero => intro a b _ _ _ _ h; omega
  | succ k ih =>
    intro a b ha hb hb2 ha2 hk
    unfold horariumref09_Gcd.f
    rw [if_neg (by omega), if_neg (by omega)]
    by_cases h : b = 0
    · subst h; rw [if_pos rfl, Int.gcd_zero_right]; congr 1; omega
    · rw [if_neg h]
      have e : (Int.tmod a b).natAbs = a.natAbs % b.natAbs := Int.natAbs_tmod a b
      have h1 := Int.tmod_nonneg b ha
      have h2 := Int.tmod_lt_of_pos a (show 0 < b by omega)
      rw [ih b (Int.tmod a b) hb h1 (by omega) (by omega) (by omega)]
      simp only [Option.bind_some]
      congr 2
      rw [Int.gcd_eq_natAbs_gcd_natAbs, Int.gcd_eq_natAbs_gcd_natAbs, e, Nat.gcd_comm a.natAbs b.natAbs, Nat.gcd_rec b.natAbs a.natAbs, Nat.gcd_comm]
theorem rper_loop (k0 : Nat) (hk0 : 2147483648 ≤ k0) (suf : List S28) : ∀ (pre : List S28) (k m : Nat), k0 + suf.length < k → (pre ++ suf).length ≤ 16 → 0 < m → m ≤ 1048576 → (∀ s ∈ suf, (tk s).ok) →
    Hm.perFrom m (suf.map fun s => s.f3.toNat) ≤ 1048576 → horariumref09_Period.l0 k (pre ++ suf) (m : Int) (pre.length : Int) = some (((Hm.perFrom m (suf.map fun s => s.f3.toNat) : Nat) : Int), 0) := by
  induction suf with
  | nil =>
    intro pre k m hk hlen h0 h1 _ _
    obtain ⟨k, rfl⟩ := some_k (show 0 < k by omega)
    simp only [horariumref09_Period.l0, List.append_nil, List.map_nil, Hm.perFrom]
    rw [if_neg (by omega)]
  | cons s suf ih =>
    intro pre k m hk hlen h0 h1 hok hp
    obtain ⟨k, rfl⟩ := some_k (show 0 < k by omega)
    obtain ⟨_, _, h2, h3, h4, h5, _, _⟩ := hok s (by simp)
    simp only [tk] at h2 h3 h4 h5
    obtain ⟨t, ht⟩ : ∃ t : Nat, s.f3 = (t : Int) := ⟨s.f3.toNat, by omega⟩
    have hg : Int.gcd (m : Int) (t : Int) = Nat.gcd m t := by simp [Int.gcd_eq_natAbs_gcd_natAbs]
    have hgp : 0 < Nat.gcd m t := Nat.gcd_pos_of_pos_left t h0
    have e3 : (s :: suf).map (fun s => s.f3.toNat) = t :: suf.map (fun s => s.f3.toNat) := by simp [ht]
    rw [e3] at hp ⊢
    rw [show Hm.perFrom m (t :: suf.map fun s => s.f3.toNat) = Hm.perFrom (Nat.lcm m t) (suf.map fun s => s.f3.toNat) from rfl] at hp ⊢
    have hlp : 0 < Nat.lcm m t := Nat.lcm_pos h0 (by omega)
    have hpos : 0 < Hm.perFrom (Nat.lcm m t) (suf.map fun s => s.f3.toNat) := Hm.perFrom_pos hlp (fun x hx => by
      obtain ⟨y, hy, rfl⟩ := List.mem_map.1 hx
      obtain ⟨_, _, g2, g3, g4, _⟩ := hok y (by simp [hy])
      simp only [tk] at g2 g3 g4
      omega)
    have hle : Nat.lcm m t ≤ 1048576 := Nat.le_trans (Nat.le_of_dvd hpos (Hm.perFrom_start (Nat.lcm m t) (suf.map fun s => s.f3.toNat))) hp
    have hlen' := hlen
    simp only [List.length_append, List.length_cons] at hlen' hk
    have i1 : ((pre ++ s :: suf).length : Int) = (pre.length : Int) + ((suf.length : Int) + 1) := by simp
    have i2 := ih (pre ++ [s]) k (Nat.lcm m t) (by omega) (by simp; omega) hlp hle (fun x hx => hok x (by simp [hx])) hp
    simp only [List.append_assoc, List.cons_append, List.nil_append] at i2
    rw [show ((pre ++ [s]).length : Int) = (pre.length : Int) + 1 from by simp] at i2
    have e1 : Int.tdiv (m : Int) ((Nat.gcd m t : Nat) : Int) = ((m / Nat.gcd m t : Nat) : Int) := by rw [Int.tdiv_eq_ediv_of_nonneg (by omega)]; exact (Int.natCast_ediv m (Nat.gcd m t)).symm
    have hq : m / Nat.gcd m t ≤ m := Nat.div_le_self _ _
    have e2 : ((m / Nat.gcd m t : Nat) : Int) * (t : Int) = ((Nat.lcm m t : Nat) : Int) := by
      rw [← Int.natCast_mul]; congr 1
      unfold Nat.lcm
      rw [Nat.mul_comm, ← Nat.mul_div_assoc t (Nat.gcd_dvd_left m t), Nat.mul_comm]
    simp only [horariumref09_Period.l0]
    rw [if_pos (by omega), if_pos (by omega), rd_mid, ht, rgcd_is k _ _ (by omega) (by omega) (by omega) (by omega) (by omega), hg]
    simp only [Option.bind_some]
    rw [if_neg (by omega), e1, w64 (n := ((m / Nat.gcd m t : Nat) : Int)) (by have := Int.natCast_nonneg (m / Nat.gcd m t); omega) (by have : ((m / Nat.gcd m t : Nat) : Int) ≤ (m : Int) := Int.ofNat_le.2 hq; omega), e2, w64 (n := ((Nat.lcm m t : Nat) : Int)) (by omega) (by omega), if_neg (by omega), w64 (by omega) (by omega)]
    exact i2
theorem rPeriod_ok {l : List S28} (k : Nat) (h : okL l) (hk : 2147483700 < k) (hp : Hm.per (l.map tk) ≤ 1048576) : horariumref09_Period.f k l = some ((Hm.per (l.map tk) : Int), 0) := by
  have e0 : Hm.per (l.map tk) = Hm.perFrom 1 (l.map fun s => s.f3.toNat) := by unfold Hm.per; rw [List.map_map]; rfl
  have hl := h.1
  have := rper_loop 2147483648 (by omega) l [] k 1 (by omega) (by simpa using hl) (by omega) (by omega) h.2 (by rw [← e0]; exact hp)
  unfold horariumref09_Period.f
  rw [rrow_yes k h (by omega)]; simp only [Option.bind_some, if_true]
  rw [e0]; exact this
theorem rload_loop {p : Int} (h0 : 0 < p) (h1 : p ≤ 1048576) (suf : List S28) : ∀ (pre : List S28) (k : Nat) (acc : Int), okL (pre ++ suf) → suf.length < k → 0 ≤ acc → acc ≤ (pre.length : Int) * 1048576 →
    horariumref09_Load.l0 k (pre ++ suf) p acc (pre.length : Int) = some (acc + Hm.loadN (suf.map tk) p, p, 0) := by
  induction suf with
  | nil =>
    intro pre k acc _ hk _ _
    obtain ⟨k, rfl⟩ := some_k hk
    simp only [horariumref09_Load.l0, List.append_nil, List.map_nil, Hm.loadN]
    rw [if_neg (by omega)]; simp
  | cons s suf ih =>
    intro pre k acc hok hk ha hb
    obtain ⟨k, rfl⟩ := some_k (show 0 < k by omega)
    have hs : (tk s).ok := hok.2 s (by simp)
    have hw := Hm.load_le hs (p := p) (by omega)
    have hlen := hok.1
    simp only [List.length_append, List.length_cons] at hlen hk
    have hc : (tk s).c = s.f1 := rfl
    have ht : (tk s).t = s.f3 := rfl
    rw [hc, ht] at hw
    obtain ⟨_, _, h2, h3, h4, h5, _, _⟩ := hs
    simp only [tk] at h2 h3 h4 h5
    have i1 : ((pre ++ s :: suf).length : Int) = (pre.length : Int) + ((suf.length : Int) + 1) := by simp
    have i2 := ih (pre ++ [s]) k (acc + s.f1 * (p / s.f3)) (by simpa using hok) (by omega) (by omega) (by simp only [List.length_append, List.length_singleton]; omega)
    simp only [List.append_assoc, List.cons_append, List.nil_append] at i2
    have i3 : ((pre ++ [s]).length : Int) = (pre.length : Int) + 1 := by simp
    rw [i3] at i2
    have hq := Int.ediv_nonneg (show 0 ≤ p by omega) (show 0 ≤ s.f3 by omega)
    have hq2 := Int.ediv_le_self s.f3 (show 0 ≤ p by omega)
    simp only [horariumref09_Load.l0]
    rw [if_pos (by omega), if_pos (by omega), rd_mid, if_neg (by omega), Int.tdiv_eq_ediv_of_nonneg (by omega), w64 (n := p / s.f3) (by omega) (by omega)]
    rw [w64 (n := s.f1 * (p / s.f3)) (by omega) (by omega), w64 (n := acc + s.f1 * (p / s.f3)) (by omega) (by omega), w64 (n := (pre.length : Int) + 1) (by omega) (by omega), i2]
    simp only [List.map_cons, Hm.loadN, hc, ht]
    congr 2; omega
theorem rLoad_ok {l : List S28} (k : Nat) (h : okL l) (hk : 2147483700 < k) (hp : Hm.per (l.map tk) ≤ 1048576) : horariumref09_Load.f k l = some (Hm.loadN (l.map tk) (Hm.per (l.map tk) : Int), (Hm.per (l.map tk) : Int), 0) := by
  unfold horariumref09_Load.f
  rw [rPeriod_ok k h hk hp]; simp only [Option.bind_some, if_true]
  have hpos := Hm.per_pos (okL_map h)
  have hl := h.1
  have := rload_loop (p := (Hm.per (l.map tk) : Int)) (by omega) (by omega) l [] k 0 (by simpa using h) (by omega) (by omega) (by simp)
  simpa using this

theorem rrowall_loop (suf : List S28) : ∀ (pre : List S28) (k : Nat), (pre ++ suf).length ≤ 1000000000000000000 → suf.length < k → horariumref09_Row.l0 k (pre ++ suf) (pre.length : Int) = some (suf.all taskB && decide ((pre ++ suf).length ≤ 16)) := by
  induction suf with
  | nil =>
    intro pre k hlen hk
    obtain ⟨k, rfl⟩ := some_k hk
    simp only [horariumref09_Row.l0, List.append_nil] at hlen ⊢
    rw [if_neg (by omega)]
    simp only [List.all_nil, Bool.true_and]
    congr 1
    by_cases h : pre.length ≤ 16
    · rw [decide_eq_true h, decide_eq_true (by omega)]
    · rw [decide_eq_false h, decide_eq_false (by omega)]
  | cons s suf ih =>
    intro pre k hlen hk
    obtain ⟨k, rfl⟩ := some_k (show 0 < k by omega)
    have i1 : ((pre ++ s :: suf).length : Int) = (pre.length : Int) + ((suf.length : Int) + 1) := by simp
    have i2 := ih (pre ++ [s]) k (by simpa using hlen) (by simp at hk; omega)
    simp only [List.append_assoc, List.cons_append, List.nil_append] at i2
    rw [show ((pre ++ [s]).length : Int) = (pre.length : Int) + 1 from by simp] at i2
    simp only [horariumref09_Row.l0]
    rw [if_pos (by omega), if_pos (by omega), rd_mid, rcheck_is]
    simp only [Option.bind_some, List.all_cons]
    cases taskB s with
    | false => rfl
    | true =>
      simp only [if_true, Bool.true_and]
      rw [w64 (by omega) (by omega)]
      exact i2
theorem rrow_all (k : Nat) (l : List S28) (hl : l.length ≤ 1000000000000000000) (hk : l.length < k) : horariumref09_Row.f k l = some (rowB l) := by
  have := rrowall_loop l [] k (by simpa using hl) hk
  unfold horariumref09_Row.f rowB
  rw [Bool.and_comm]
  exact this

theorem rper_over (k0 : Nat) (hk0 : 2147483648 ≤ k0) (suf : List S28) : ∀ (pre : List S28) (k m : Nat), k0 + suf.length < k → (pre ++ suf).length ≤ 16 → 0 < m → m ≤ 1048576 → (∀ s ∈ suf, (tk s).ok) →
    ¬ Hm.perFrom m (suf.map fun s => s.f3.toNat) ≤ 1048576 → horariumref09_Period.l0 k (pre ++ suf) (m : Int) (pre.length : Int) = some (0, 16) := by
  induction suf with
  | nil =>
    intro pre k m hk hlen h0 h1 _ hp
    exact absurd h1 hp
  | cons s suf ih =>
    intro pre k m hk hlen h0 h1 hok hp
    obtain ⟨k, rfl⟩ := some_k (show 0 < k by omega)
    obtain ⟨_, _, h2, h3, h4, h5, _, _⟩ := hok s (by simp)
    simp only [tk] at h2 h3 h4 h5
    obtain ⟨t, ht⟩ : ∃ t : Nat, s.f3 = (t : Int) := ⟨s.f3.toNat, by omega⟩
    have hg : Int.gcd (m : Int) (t : Int) = Nat.gcd m t := by simp [Int.gcd_eq_natAbs_gcd_natAbs]
    have hgp : 0 < Nat.gcd m t := Nat.gcd_pos_of_pos_left t h0
    have e3 : (s :: suf).map (fun s => s.f3.toNat) = t :: suf.map (fun s => s.f3.toNat) := by simp [ht]
    rw [e3] at hp
    rw [show Hm.perFrom m (t :: suf.map fun s => s.f3.toNat) = Hm.perFrom (Nat.lcm m t) (suf.map fun s => s.f3.toNat) from rfl] at hp
    have hlp : 0 < Nat.lcm m t := Nat.lcm_pos h0 (by omega)
    have hlen' := hlen
    simp only [List.length_append, List.length_cons] at hlen' hk
    have i1 : ((pre ++ s :: suf).length : Int) = (pre.length : Int) + ((suf.length : Int) + 1) := by simp
    have e1 : Int.tdiv (m : Int) ((Nat.gcd m t : Nat) : Int) = ((m / Nat.gcd m t : Nat) : Int) := by rw [Int.tdiv_eq_ediv_of_nonneg (by omega)]; exact (Int.natCast_ediv m (Nat.gcd m t)).symm
    have hq : m / Nat.gcd m t ≤ m := Nat.div_le_self _ _
    have e2 : ((m / Nat.gcd m t : Nat) : Int) * (t : Int) = ((Nat.lcm m t : Nat) : Int) := by
      rw [← Int.natCast_mul]; congr 1
      unfold Nat.lcm
      rw [Nat.mul_comm, ← Nat.mul_div_assoc t (Nat.gcd_dvd_left m t), Nat.mul_comm]
    have hlcm : Nat.lcm m t ≤ 1048576 * 2147483648 := by
      rw [← Hm.mul_quo_gcd (m := m) (t := t) (by omega)]
      exact Nat.mul_le_mul h1 (by have := Nat.div_le_self t (Nat.gcd m t); omega)
    simp only [horariumref09_Period.l0]
    rw [if_pos (by omega), if_pos (by omega), rd_mid, ht, rgcd_is k _ _ (by omega) (by omega) (by omega) (by omega) (by omega), hg]
    simp only [Option.bind_some]
    rw [if_neg (by omega), e1, w64 (n := ((m / Nat.gcd m t : Nat) : Int)) (by have := Int.natCast_nonneg (m / Nat.gcd m t); omega) (by have : ((m / Nat.gcd m t : Nat) : Int) ≤ (m : Int) := Int.ofNat_le.2 hq; omega), e2, w64 (n := ((Nat.lcm m t : Nat) : Int)) (by omega) (by omega)]
    by_cases hle : Nat.lcm m t ≤ 1048576
    · rw [if_neg (by omega), w64 (by omega) (by omega)]
      have i2 := ih (pre ++ [s]) k (Nat.lcm m t) (by omega) (by simp; omega) hlp hle (fun x hx => hok x (by simp [hx])) hp
      simp only [List.append_assoc, List.cons_append, List.nil_append] at i2
      rw [show ((pre ++ [s]).length : Int) = (pre.length : Int) + 1 from by simp] at i2
      exact i2
    · rw [if_pos (by omega)]
theorem rPeriod_over {l : List S28} (k : Nat) (h : okL l) (hk : 2147483700 < k) (hp : ¬ Hm.per (l.map tk) ≤ 1048576) : horariumref09_Period.f k l = some (0, 16) := by
  have e0 : Hm.per (l.map tk) = Hm.perFrom 1 (l.map fun s => s.f3.toNat) := by unfold Hm.per; rw [List.map_map]; rfl
  have hl := h.1
  have := rper_over 2147483648 (by omega) l [] k 1 (by omega) (by simpa using hl) (by omega) (by omega) h.2 (by rw [← e0]; exact hp)
  unfold horariumref09_Period.f
  rw [rrow_yes k h (by omega)]; simp only [Option.bind_some, if_true]
  exact this
theorem rPeriod_arg {l : List S28} (k : Nat) (h : ¬ okL l) (hl : l.length ≤ 1000000000000000000) (hk : l.length < k) : horariumref09_Period.f k l = some (0, 1) := by
  unfold horariumref09_Period.f
  rw [rrow_all k l hl hk, Bool.eq_false_iff.2 (fun e => h ((rowB_ok l).1 e))]; rfl
theorem rLoad_over {l : List S28} (k : Nat) (h : okL l) (hk : 2147483700 < k) (hp : ¬ Hm.per (l.map tk) ≤ 1048576) : horariumref09_Load.f k l = some (0, 0, 16) := by
  unfold horariumref09_Load.f
  rw [rPeriod_over k h hk hp]; rfl
theorem rLoad_arg {l : List S28} (k : Nat) (h : ¬ okL l) (hl : l.length ≤ 1000000000000000000) (hk : l.length < k) : horariumref09_Load.f k l = some (0, 0, 1) := by
  unfold horariumref09_Load.f
  rw [rPeriod_arg k h hl hk]; rfl

theorem rwork_no (l : List S28) (x : Int) (b : Bool) (h : ¬ (b = true ∧ 0 < x ∧ x ≤ 1099511627776)) (k : Nat) (hk : 0 < k) : horariumref11_Work.l0 k l x b 0 0 = some 0 := by
  obtain ⟨k, rfl⟩ := some_k hk
  simp only [horariumref11_Work.l0]
  by_cases h0 : (0 : Int) < (l.length : Int)
  · rw [if_pos h0]
    by_cases h1 : b = true
    · rw [if_pos h1]
      by_cases h2 : 0 < x
      · rw [if_pos h2, if_neg (fun h3 => h ⟨h1, h2, h3⟩)]
      · rw [if_neg h2]
    · rw [if_neg h1]
  · rw [if_neg h0]
theorem jobs_ref {s : S28} {x : Int} (h : (tk s).ok) : Hm.jobs (tk s) x = (x - 1) / s.f3 + 1 := by
  obtain ⟨_, _, h2, h3, h4, h5, _, _⟩ := h
  simp only [tk] at h2 h3 h4 h5
  show (x + s.f3 - 1) / s.f3 = _
  rw [show x + s.f3 - 1 = (x - 1) + 1 * s.f3 by omega, Int.add_mul_ediv_right _ _ (by omega)]
theorem rwork_loop {x : Int} (h0 : 0 < x) (h1 : x ≤ 1099511627776) (suf : List S28) : ∀ (pre : List S28) (k : Nat) (acc : Int), okL (pre ++ suf) → suf.length < k → 0 ≤ acc → acc ≤ (pre.length : Int) * 2000000000000 →
    horariumref11_Work.l0 k (pre ++ suf) x true acc (pre.length : Int) = some (acc + Hm.work (suf.map tk) x) := by
  induction suf with
  | nil =>
    intro pre k acc _ hk _ _
    obtain ⟨k, rfl⟩ := some_k hk
    simp only [horariumref11_Work.l0, List.append_nil, List.map_nil, Hm.work]
    rw [if_neg (by omega)]; simp
  | cons s suf ih =>
    intro pre k acc hok hk ha hb
    obtain ⟨k, rfl⟩ := some_k (show 0 < k by omega)
    have hs : (tk s).ok := hok.2 s (by simp)
    have hw := Hm.jobw_le hs (show 0 ≤ x by omega)
    have hlen := hok.1
    simp only [List.length_append, List.length_cons] at hlen hk
    have hc : (tk s).c = s.f1 := rfl
    rw [hc] at hw
    have hj := jobs_ref (x := x) hs
    obtain ⟨_, _, h2, h3, h4, h5, _, _⟩ := id hs
    simp only [tk] at h2 h3 h4 h5
    have i1 : ((pre ++ s :: suf).length : Int) = (pre.length : Int) + ((suf.length : Int) + 1) := by simp
    have i2 := ih (pre ++ [s]) k (acc + s.f1 * Hm.jobs (tk s) x) (by simpa using hok) (by omega) (by omega) (by simp only [List.length_append, List.length_singleton]; omega)
    simp only [List.append_assoc, List.cons_append, List.nil_append] at i2
    rw [show ((pre ++ [s]).length : Int) = (pre.length : Int) + 1 from by simp] at i2
    have hq := Int.ediv_nonneg (show 0 ≤ x - 1 by omega) (show 0 ≤ s.f3 by omega)
    have hq2 := Int.ediv_le_self s.f3 (show 0 ≤ x - 1 by omega)
    simp only [horariumref11_Work.l0]
    rw [if_pos (by omega), if_pos trivial, if_pos (by omega), if_pos (by omega), if_pos (by omega), rd_mid, if_neg (by omega), w64 (n := x - 1) (by omega) (by omega), Int.tdiv_eq_ediv_of_nonneg (by omega), w64 (n := (x - 1) / s.f3) (by omega) (by omega), w64 (n := (x - 1) / s.f3 + 1) (by omega) (by omega), ← hj]
    rw [w64 (n := s.f1 * Hm.jobs (tk s) x) (by omega) (by omega), w64 (n := acc + s.f1 * Hm.jobs (tk s) x) (by omega) (by omega), w64 (n := (pre.length : Int) + 1) (by omega) (by omega), i2]
    simp only [List.map_cons, Hm.work, hc]
    congr 1; omega
theorem rWork_all (k : Nat) (l : List S28) (x : Int) (hl : l.length ≤ 1000000000000000000) (hk : l.length + 17 < k) : horariumref11_Work.f k l x = some (workV l x) := by
  unfold horariumref11_Work.f
  rw [rrow_all k l hl (by omega)]; simp only [Option.bind_some]
  by_cases h : rowB l = true ∧ 0 < x ∧ x ≤ 1099511627776
  · have hok := (rowB_ok l).1 h.1
    rw [h.1, workV_yes hok (by omega) h.2.2]
    have := rwork_loop h.2.1 h.2.2 l [] k 0 (by simpa using hok) (by omega) (by omega) (by simp)
    simpa using this
  · rw [rwork_no l x _ h k (by omega)]
    unfold workV
    by_cases h' : (rowB l && (decide (0 ≤ x) && decide (x ≤ 1099511627776))) = true
    · rw [if_pos h']
      simp only [Bool.and_eq_true, decide_eq_true_eq] at h'
      have hx : x = 0 := by
        by_cases hx : 0 < x
        · exact absurd ⟨h'.1, hx, h'.2.2⟩ h
        · omega
      rw [hx, Hm.work_zero (okL_map ((rowB_ok l).1 h'.1))]
    · rw [if_neg h']

theorem Length_long {l : List S28} (k : Nat) (h : okL l) (hk : 2147483648 < k) (hp : ¬ Hm.per (l.map tk) ≤ 1048576) : busy_Length.f k l = some (0, 16) := by
  unfold busy_Length.f
  rw [right_long k h hk hp]; rfl
theorem Length_arg {l : List S28} (k : Nat) (h : ¬ okL l) : busy_Length.f k l = some (0, 1) := by
  unfold busy_Length.f
  rw [right_arg k h]; rfl
theorem rlen_loop {l : List S28} (hok : okL l) {n P a b : Int} (hn1 : 1 ≤ n) (hn : n ≤ P) (hP : P ≤ 1048576) (hw : Hm.work (l.map tk) n = n) (hy : ∀ y, 1 ≤ y → y < n → y < Hm.work (l.map tk) y) (d : Nat) : ∀ (k : Nat) (t : Int), t + d = n → 1 ≤ t → d + 40 < k →
    horariumref11_Length.l0 k l t a P b = some (n, 0) := by
  have h16 := hok.1
  induction d with
  | zero =>
    intro k t hd h1 hk
    obtain ⟨k, rfl⟩ := some_k (show 0 < k by omega)
    have e : t = n := by omega
    subst e
    simp only [horariumref11_Length.l0]
    rw [rWork_all k l t (by omega) (by omega), workV_yes hok (by omega) (by omega), hw]
    simp
  | succ d ih =>
    intro k t hd h1 hk
    obtain ⟨k, rfl⟩ := some_k (show 0 < k by omega)
    have := hy t h1 (by omega)
    simp only [horariumref11_Length.l0]
    rw [if_pos (by omega), rWork_all k l t (by omega) (by omega), workV_yes hok (by omega) (by omega)]
    simp only [Option.bind_some]
    rw [if_neg (by omega), w64 (by omega) (by omega)]
    exact ih k (t + 1) (by omega) (by omega) (by omega)
/-- What Length tells, in the program and in the document. -/
theorem Length_same (l : List S28) (hl : l.length ≤ 1000000) (k : Nat) (hk : 2147500000 < k) : ∃ n e, busy_Length.f k l = some (n, e) ∧ horariumref11_Length.f k l = some (n, e) ∧
    (e = 0 ∧ okL l ∧ Hm.per (l.map tk) ≤ 1048576 ∧ Hm.loadN (l.map tk) (Hm.per (l.map tk) : Int) ≤ (Hm.per (l.map tk) : Int) ∧ (l ≠ [] → Hm.work (l.map tk) n = n ∧ 1 ≤ n ∧ n ≤ (Hm.per (l.map tk) : Int) ∧ ∀ y, 1 ≤ y → y < n → y < Hm.work (l.map tk) y) ∨ e ≠ 0) := by
  by_cases hok : okL l
  · by_cases hp : Hm.per (l.map tk) ≤ 1048576
    · by_cases hf : Hm.loadN (l.map tk) (Hm.per (l.map tk) : Int) ≤ (Hm.per (l.map tk) : Int)
      · by_cases hne : l = []
        · subst hne
          refine ⟨0, 0, Length_none k (by omega), ?_, Or.inl ⟨rfl, hok, hp, hf, fun h => absurd rfl h⟩⟩
          unfold horariumref11_Length.f
          rw [rLoad_ok k hok (by omega) hp]; simp only [Option.bind_some, if_true]
          rw [if_neg (by omega)]; rfl
        · obtain ⟨n, e1, e2, e3, e4, e5⟩ := Length_fits k hok (by omega) hne hp hf
          refine ⟨n, 0, e1, ?_, Or.inl ⟨rfl, hok, hp, hf, fun _ => ⟨e2, e3, e4, e5⟩⟩⟩
          have hlen := List.length_pos_iff.2 hne
          unfold horariumref11_Length.f
          rw [rLoad_ok k hok (by omega) hp]; simp only [Option.bind_some, if_true]
          rw [if_neg (by omega), if_neg (by omega)]
          exact rlen_loop hok e3 e4 (by omega) e2 e5 (n - 1).toNat k 1 (by omega) (by omega) (by omega)
      · refine ⟨0, 17, Length_over k hok (by omega) hp (by omega), ?_, Or.inr (by omega)⟩
        unfold horariumref11_Length.f
        rw [rLoad_ok k hok (by omega) hp]; simp only [Option.bind_some, if_true]
        rw [if_pos (by omega)]
    · refine ⟨0, 16, Length_long k hok (by omega) hp, ?_, Or.inr (by omega)⟩
      unfold horariumref11_Length.f
      rw [rLoad_over k hok (by omega) hp]; rfl
  · refine ⟨0, 1, Length_arg k hok, ?_, Or.inr (by omega)⟩
    unfold horariumref11_Length.f
    rw [rLoad_arg k hok (by omega) (by omega)]; rfl

theorem steps_chain {l : List S28} (hok : okL l) {P : Int} (hP1 : P ≤ 1099511627776) (hP : Hm.work (l.map tk) P ≤ P) : ∀ (k : Nat) (x : Int), (P - x).toNat < k → 0 ≤ x → x ≤ P → x ≤ Hm.work (l.map tk) x →
    ∃ xs, stepsL l k x = some (x :: xs) ∧ ((xs.length : Int) ≤ P - x) ∧ (∀ y ∈ x :: xs, 0 ≤ y ∧ y ≤ P) ∧ ∀ i (h : i + 1 < (x :: xs).length), (x :: xs)[i] < (x :: xs)[i + 1] ∧ (x :: xs)[i + 1] = Hm.work (l.map tk) (x :: xs)[i] := by
  intro k
  induction k with
  | zero => intro x h; omega
  | succ k ih =>
    intro x hk h0 h1 h2
    have hv := workV_yes hok h0 (show x ≤ 1099511627776 by omega)
    have hm := Hm.work_mono (okL_map hok) h1
    unfold stepsL
    rw [hv]
    by_cases he : Hm.work (l.map tk) x = x
    · rw [if_pos he]
      exact ⟨[], rfl, by simp; omega, fun y hy => by simp at hy; omega, fun i hi => by simp at hi⟩
    · rw [if_neg he]
      obtain ⟨xs, e1, e2, e3, e4⟩ := ih (Hm.work (l.map tk) x) (by omega) (by omega) (by omega) (Hm.work_mono (okL_map hok) h2)
      rw [e1]
      refine ⟨Hm.work (l.map tk) x :: xs, rfl, by simp only [List.length_cons]; omega, fun y hy => ?_, fun i hi => ?_⟩
      · rcases List.mem_cons.1 hy with rfl | hy
        · omega
        · exact e3 y hy
      · cases i with
        | zero => exact ⟨by show x < Hm.work (l.map tk) x; omega, rfl⟩
        | succ i => exact e4 i (by simpa using hi)
theorem lastV_get (x : Int) (xs : List Int) : lastV (x :: xs) = (x :: xs)[xs.length] := by
  induction xs generalizing x with
  | nil => rfl
  | cons y ys ih => rw [lastV_cons (by simp), ih y]; simp

theorem rsteps_loop {l : List S28} {n : Int} (hl : l.length ≤ 1000000) (hn : workV l n = n) : ∀ (c : Nat) (x : Int) (xs : List Int), stepsL l c x = some (x :: xs) → lastV (x :: xs) = n → ∀ (k : Nat) (out : List Int), xs.length + 1000040 < k → out.length + xs.length < 17592186044416 →
    horariumref11_Steps.l1 k l n x out = some (out ++ xs) := by
  intro c
  induction c with
  | zero => intro x xs h; simp [stepsL] at h
  | succ c ih =>
    intro x xs h hlast k out hk hout
    obtain ⟨k, rfl⟩ := some_k (show 0 < k by omega)
    unfold stepsL at h
    simp only [horariumref11_Steps.l1]
    by_cases he : workV l x = x
    · rw [if_pos he] at h
      have hx : xs = [] := by simpa using h.symm
      subst hx
      have : x = n := hlast
      rw [if_pos this]; simp
    · rw [if_neg he] at h
      obtain ⟨r', hr', e⟩ := Option.map_eq_some_iff.1 h
      have hxs : r' = xs := by simpa using e
      subst hxs
      have hne : x ≠ n := fun e => he (by rw [e]; exact hn)
      rw [if_neg hne, rWork_all k l x (by omega) (by omega)]
      simp only [Option.bind_some]
      cases r' with
      | nil => 
        cases c with
        | zero => simp [stepsL] at hr'
        | succ c =>
          unfold stepsL at hr'
          by_cases h2 : workV l (workV l x) = workV l x
          · rw [if_pos h2] at hr'; simp at hr'
          · rw [if_neg h2] at hr'; obtain ⟨r2, _, e2⟩ := Option.map_eq_some_iff.1 hr'; simp at e2
      | cons y ys =>
        have hy : workV l x = y := by
          cases c with
          | zero => simp [stepsL] at hr'
          | succ c =>
            unfold stepsL at hr'
            by_cases h2 : workV l (workV l x) = workV l x
            · rw [if_pos h2] at hr'; simp at hr'; exact hr'.1
            · rw [if_neg h2] at hr'; obtain ⟨r2, _, e2⟩ := Option.map_eq_some_iff.1 hr'; simp at e2; exact e2.1
        rw [hy] at hr' ⊢
        simp only [List.length_cons] at hk hout
        rw [if_pos (by omega), ih y ys hr' (by rw [← hlast]; exact (lastV_cons (by simp)).symm) k (out ++ [y]) (by omega) (by simp; omega)]
        simp
theorem rsum_loop {l : List S28} {n : Int} (suf : List S28) : ∀ (pre : List S28) (k : Nat), l = pre ++ suf → l.length ≤ 1000000 → suf.length < k →
    horariumref11_Steps.l0 k l n (sumF pre) (pre.length : Int) = horariumref11_Steps.l1 (k - suf.length - 1) l n (sumF l) [sumF l] := by
  induction suf with
  | nil =>
    intro pre k e hl hk
    obtain ⟨k, rfl⟩ := some_k hk
    have e' : l = pre := by simpa using e
    subst e'
    simp only [horariumref11_Steps.l0]
    rw [if_neg (by omega)]; simp
  | cons s suf ih =>
    intro pre k e hl hk
    obtain ⟨k, rfl⟩ := some_k (show 0 < k by omega)
    have i1 : (l.length : Int) = (pre.length : Int) + ((suf.length : Int) + 1) := by rw [e]; simp
    simp only [List.length_cons] at hk
    have i2 := ih (pre ++ [s]) k (by simpa using e) hl (by omega)
    rw [sumF_snoc, show ((pre ++ [s]).length : Int) = (pre.length : Int) + 1 from by simp] at i2
    simp only [horariumref11_Steps.l0]
    rw [if_pos (by omega), if_pos (by omega), w64 (n := (pre.length : Int) + 1) (by omega) (by omega)]
    rw [show rd_T28 l (pre.length : Int) = s from by rw [e, rd_mid], i2]
    congr 1; simp
theorem Steps_same (l : List S28) (hl : l.length ≤ 1000000) (k : Nat) (hk : 2147500000 < k) : ∃ xs, busy_Steps.f k l = some xs ∧ horariumref11_Steps.f k l = some xs ∧ xs.length ≤ 1048577 := by
  obtain ⟨n, e, h1, h2, h3⟩ := Length_same l hl k hk
  rcases h3 with ⟨rfl, hok, hp, hf, hne⟩ | he
  · by_cases hnil : l = []
    · subst hnil
      refine ⟨[], ?_, ?_, by simp⟩
      · unfold busy_Steps.f
        rw [right_fits k hok (by omega) hp hf]; rfl
      · unfold horariumref11_Steps.f
        rw [h2]; simp only [Option.bind_some, if_true]
        obtain ⟨k, rfl⟩ := some_k (show 0 < k by omega)
        simp [horariumref11_Steps.j0]
    · obtain ⟨g1, g2, g3, g4⟩ := hne hnil
      have hpos := Hm.per_pos (okL_map hok)
      have hlen := List.length_pos_iff.2 hnil
      have hS := Hm.sumC_le (okL_map hok)
      rw [List.length_map] at hS
      have h16 := hok.1
      have hW := Hm.work_load (okL_map hok) (p := (Hm.per (l.map tk) : Int)) (fun t ht => Hm.per_dvd (okL_map hok) ht)
      have hw1 := Hm.work_one (okL_map hok)
      have hm1 := Hm.work_mono (okL_map hok) (show (1 : Int) ≤ (Hm.per (l.map tk) : Int) by omega)
      have hm2 := Hm.work_mono (okL_map hok) (show (1 : Int) ≤ Hm.sumC (l.map tk) by omega)
      obtain ⟨xs, f1, f2, f3, f4⟩ := steps_chain hok (P := (Hm.per (l.map tk) : Int)) (by omega) (by omega) k (Hm.sumC (l.map tk)) (by omega) (by omega) (by omega) (by omega)
      have hlast : lastV (Hm.sumC (l.map tk) :: xs) = n := by
        have := h1
        unfold busy_Length.f at this
        rw [right_fits k hok (by omega) hp hf] at this; simp only [Option.bind_some, if_true] at this
        rw [if_neg hnil, sumF_is hok, f1] at this
        simpa using this
      refine ⟨Hm.sumC (l.map tk) :: xs, ?_, ?_, by simp only [List.length_cons]; omega⟩
      · unfold busy_Steps.f
        rw [right_fits k hok (by omega) hp hf]; simp only [Option.bind_some, if_true]
        rw [if_neg hnil, sumF_is hok, f1]; simp only [Option.bind_some]
        rw [if_pos (by simp only [List.length_cons]; omega)]
      · unfold horariumref11_Steps.f
        rw [h2]; simp only [Option.bind_some, if_true]
        obtain ⟨k', rfl⟩ := some_k (show 0 < k by omega)
        simp only [horariumref11_Steps.j0]
        rw [if_neg (by simp; omega)]
        have hz := rsum_loop (l := l) (n := n) l [] k' rfl hl (by omega)
        rw [show sumF [] = 0 from rfl] at hz
        rw [show (([] : List S28).length : Int) = 0 from rfl] at hz
        rw [hz, sumF_is hok]
        rw [rsteps_loop hl (by rw [workV_yes hok (by omega) (by omega)]; exact g1) _ _ _ f1 hlast _ _ (by omega) (by simp; omega)]
        simp
  · refine ⟨[], ?_, ?_, by simp⟩
    · unfold busy_Steps.f
      unfold busy_Length.f at h1
      obtain ⟨er, h4, h5⟩ := Option.bind_eq_some_iff.1 h1
      rw [h4]; simp only [Option.bind_some]
      by_cases hz : er = 0
      · rw [if_pos hz] at h5
        by_cases hnil : l = []
        · rw [if_pos hnil] at h5; simp at h5; exact absurd h5.2.symm he
        · rw [if_neg hnil] at h5
          obtain ⟨ys, _, h6⟩ := Option.bind_eq_some_iff.1 h5
          simp at h6; exact absurd h6.2.symm he
      · rw [if_neg hz]
    · unfold horariumref11_Steps.f
      rw [h2]; simp only [Option.bind_some]
      rw [if_neg he]
      obtain ⟨k, rfl⟩ := some_k (show 0 < k by omega)
      simp [horariumref11_Steps.j0]

theorem rsame_loop (l : List Int) (hl : l.length ≤ 1000000000000000000) (d : Nat) : ∀ (k i : Nat), i + d = l.length → d < k → horariumref10_Same.l0 k l l (i : Int) = some true := by
  induction d with
  | zero =>
    intro k i hd hk
    obtain ⟨k, rfl⟩ := some_k (show 0 < k by omega)
    simp only [horariumref10_Same.l0]
    rw [if_neg (by omega)]
  | succ d ih =>
    intro k i hd hk
    obtain ⟨k, rfl⟩ := some_k (show 0 < k by omega)
    simp only [horariumref10_Same.l0]
    rw [if_pos (by omega), if_pos (by omega), if_pos (by omega), if_pos trivial, w64 (by omega) (by omega), show (i : Int) + 1 = ((i + 1 : Nat) : Int) by omega]
    exact ih k (i + 1) (by omega) (by omega)
theorem rSame_self (l : List Int) (k : Nat) (hl : l.length ≤ 1000000000000000000) (hk : l.length < k) : horariumref10_Same.f k l l = some true := by
  unfold horariumref10_Same.f
  rw [if_pos rfl]
  exact rsame_loop l hl l.length k 0 (by omega) hk

theorem and_7 (n : Int) : Go.bits .and .i64 n 7 = n % 8 := by
  have h127 : (BitVec.ofInt 64 7).toNat = 2 ^ 3 - 1 := by decide
  have key : (BitVec.ofInt 64 n &&& BitVec.ofInt 64 7).toNat = (n % ((2 ^ 64 : Nat) : Int)).toNat % 2 ^ 3 := by
    rw [BitVec.toNat_and, BitVec.toNat_ofInt, h127, Nat.and_two_pow_sub_one_eq_mod]
  show IntKind.i64.wrap ((BitVec.ofInt 64 n &&& BitVec.ofInt 64 7).toNat : Nat) = n % 8
  rw [key, IntKind.wrap_i64]
  omega

/-- Tasks by numbers. -/
def MadeP (r : List S28) : Prop := ∀ i (h : i < r.length), (r[i]).f0 = (i : Int) ∧ 1 ≤ (r[i]).f1 ∧ (r[i]).f1 ≤ (r[i]).f2 ∧ (r[i]).f2 ≤ (r[i]).f3 ∧ 2 ≤ (r[i]).f3 ∧ (r[i]).f3 ≤ 12 ∧ (r[i]).f3 ∣ 120 ∧ 1 ≤ (r[i]).f4 ∧ (r[i]).f4 ≤ 15
theorem mod_rng (a : Int) {m : Int} (h : 1 ≤ m) (hm : m ≤ 24) : 1 ≤ wrap64 (1 + Int.tmod (wrap64 (Int.tmod a m + m)) m) ∧ wrap64 (1 + Int.tmod (wrap64 (Int.tmod a m + m)) m) ≤ m := by
  have h1 : -m < Int.tmod a m ∧ Int.tmod a m < m := by
    rcases Int.le_total 0 a with ha | ha
    · have h2 := Int.tmod_lt_of_pos a (show 0 < m by omega); have h3 := Int.tmod_nonneg m ha; omega
    · have h2 := Int.tmod_lt_of_pos (-a) (show 0 < m by omega); have h3 := Int.tmod_nonneg m (show 0 ≤ -a by omega)
      rw [Int.neg_tmod] at h2 h3; omega
  rw [w64 (n := Int.tmod a m + m) (by omega) (by omega)]
  have h4 := Int.tmod_lt_of_pos (Int.tmod a m + m) (show 0 < m by omega); have h5 := Int.tmod_nonneg m (show 0 ≤ Int.tmod a m + m by omega)
  rw [w64 (by omega) (by omega)]; omega
theorem per_rng (j : Int) (h0 : 0 ≤ j) (h1 : j < 8) : 2 ≤ rd [2, 3, 4, 5, 6, 8, 10, 12] j ∧ rd [2, 3, 4, 5, 6, 8, 10, 12] j ≤ 12 ∧ rd [2, 3, 4, 5, 6, 8, 10, 12] j ∣ 120 := by
  have : j = 0 ∨ j = 1 ∨ j = 2 ∨ j = 3 ∨ j = 4 ∨ j = 5 ∨ j = 6 ∨ j = 7 := by omega
  rcases this with rfl | rfl | rfl | rfl | rfl | rfl | rfl | rfl <;> decide
theorem made_loop (l : List S31) (d : Nat) : ∀ (k i : Nat) (r : List S28), i + d = min l.length 8 → d < k → r.length = i → MadeP r →
    ∃ r', horariumlaw11_made.l0 k l r (i : Int) 2 3 4 5 6 8 10 12 = some r' ∧ r'.length = min l.length 8 ∧ MadeP r' := by
  induction d with
  | zero =>
    intro k i r hd hk hr hm
    obtain ⟨k, rfl⟩ := some_k hk
    refine ⟨r, ?_, by omega, hm⟩
    simp only [horariumlaw11_made.l0]
    by_cases h : (i : Int) < (l.length : Int)
    · rw [if_pos h, if_neg (by omega)]
    · rw [if_neg h]
  | succ d ih =>
    intro k i r hd hk hr hm
    obtain ⟨k, rfl⟩ := some_k (show 0 < k by omega)
    simp only [horariumlaw11_made.l0]
    rw [and_7, if_pos (by omega), if_pos (by omega), if_pos (by omega), if_pos (by omega), if_pos (by omega)]
    have hT := per_rng ((rd_T31 l (i : Int)).f2 % 8) (by omega) (by omega)
    generalize rd [2, 3, 4, 5, 6, 8, 10, 12] ((rd_T31 l (i : Int)).f2 % 8) = T at hT ⊢
    rw [if_neg (by omega)]
    have hD := mod_rng (rd_T31 l (i : Int)).f1 (m := T) (by omega) (by omega)
    generalize wrap64 (1 + Int.tmod (wrap64 (Int.tmod (rd_T31 l (i : Int)).f1 T + T)) T) = D at hD ⊢
    rw [if_neg (by omega), if_pos (by omega)]
    have hC := mod_rng (rd_T31 l (i : Int)).f0 (m := D) (by omega) (by omega)
    generalize wrap64 (1 + Int.tmod (wrap64 (Int.tmod (rd_T31 l (i : Int)).f0 D + D)) D) = C at hC ⊢
    rw [w64 (n := (i : Int) + 1) (by omega) (by omega)]
    have e : ((i : Int) + 1) = ((i + 1 : Nat) : Int) := by omega
    rw [e]
    refine ih k (i + 1) _ (by omega) (by omega) (by simp [hr]) ?_
    intro j hj
    by_cases h : j < r.length
    · rw [List.getElem_append_left h]; exact hm j h
    · have hj2 : j = r.length := by simp at hj; omega
      subst hj2
      rw [List.getElem_append_right (by omega)]
      simp only [Nat.sub_self, List.getElem_cons_zero]
      refine ⟨by omega, by omega, by omega, by omega, by omega, by omega, hT.2.2, ?_, ?_⟩ <;> omega
theorem made_is (l : List S31) (k : Nat) (hk : 8 < k) : ∃ r, horariumlaw11_made.f k l = some r ∧ r.length = min l.length 8 ∧ MadeP r := by
  unfold horariumlaw11_made.f
  exact made_loop l (min l.length 8) k 0 [] (by omega) (by omega) rfl (fun i h => by simp at h)
theorem MadeP.okL {r : List S28} (h : MadeP r) (hl : r.length ≤ 16) : okL r := by
  refine ⟨hl, fun s hs => ?_⟩
  obtain ⟨i, hi, rfl⟩ := List.getElem_of_mem hs
  have := h i hi
  unfold Hm.Tk.ok tk
  simp only
  omega
theorem rd_at {r : List S28} {i : Nat} (hi : i < r.length) : rd_T28 r (i : Int) = r[i] := by
  simp [rd_T28, hi]

theorem awake_is : ∀ k, 60 ≤ k → horariumlaw11_awake.f k = some true := by
  have h : horariumlaw11_awake.f 60 = some true := by decide +kernel
  intro k hk
  exact at_rounds (horariumlaw11_awake.mono) hk h

theorem lengths_is (l : List S28) (hl : l.length ≤ 1000000) (k : Nat) (hk : 2147500000 < k) : horariumlaw11_lengths.f k l = some true := by
  obtain ⟨n, e, h1, h2, _⟩ := Length_same l hl k hk
  obtain ⟨xs, h3, h4, h5⟩ := Steps_same l hl k hk
  unfold horariumlaw11_lengths.f
  rw [h1, h2, h3, h4]
  simp only [Option.bind_some, if_true]
  rw [rSame_self xs k (by omega) (by omega)]; rfl
theorem few_is (l : List S28) : ∃ r, horariumlaw11_few.f l = some r ∧ r.length ≤ 3 := by
  unfold horariumlaw11_few.f
  by_cases h : (l.length : Int) > 3
  · rw [if_pos h, if_pos (by omega)]; exact ⟨_, rfl, by simp; omega⟩
  · rw [if_neg h]; exact ⟨_, rfl, by omega⟩
theorem few_loop {N : Nat} (hN : 2147600000 ≤ N) {l : List S31} {t : List S28} (ht : t.length ≤ 100) (hm : ∀ k, 100 < k → horariumlaw11_made.f k l = some t) : ∀ (d : Nat) (r : List S28) (i k : Nat), i + d = 3 → r.length ≤ 3 → N + d + d < k →
    horariumlaw11_BusyLengths.l0 k l true r (i : Int) = some true := by
  have fin : ∀ (r : List S28) (i k : Nat), r.length ≤ i → r.length ≤ 3 → N < k → horariumlaw11_BusyLengths.l0 k l true r (i : Int) = some true := by
    intro r i k hi hr hk
    obtain ⟨k, rfl⟩ := some_k (show 0 < k by omega)
    simp only [horariumlaw11_BusyLengths.l0]
    rw [if_neg (by omega), lengths_is r (by omega) k (by omega)]
    simp only [Option.bind_some, if_true]
    rw [hm k (by omega)]
    simp only [Option.bind_some]
    rw [lengths_is t (by omega) k (by omega)]; rfl
  intro d
  induction d with
  | zero => intro r i k hd hr hk; exact fin r i k (by omega) hr (by omega)
  | succ d ih =>
    intro r i k hd hr hk
    by_cases hi : i < r.length
    · obtain ⟨k, rfl⟩ := some_k (show 0 < k by omega)
      obtain ⟨k, rfl⟩ := some_k (show 0 < k by omega)
      simp only [horariumlaw11_BusyLengths.l0]
      rw [if_pos (by omega), if_pos (by omega)]
      have e : ((i : Int) + 1) = ((i + 1 : Nat) : Int) := by omega
      by_cases h1 : (rd_T28 r (i : Int)).f3 > 1024
      · rw [if_pos h1]
        simp only [horariumlaw11_BusyLengths.j1]
        rw [w64 (by omega) (by omega), e]
        split
        · exact ih [] (i + 1) k (by omega) (by simp) (by omega)
        · exact ih r (i + 1) k (by omega) hr (by omega)
      · rw [if_neg h1]
        simp only [horariumlaw11_BusyLengths.j1]
        rw [w64 (by omega) (by omega), e, if_neg (by simp)]
        exact ih r (i + 1) k (by omega) hr (by omega)
    · exact fin r i k (by omega) hr (by omega)
theorem BusyLengths : horariumlaw11_BusyLengths.Pure := by
  intro raw l _ _ _ _
  obtain ⟨t, hr, hl, _⟩ := made_is l 101 (by omega)
  obtain ⟨r, hr2, hl2⟩ := few_is raw
  have hm : ∀ k, 100 < k → horariumlaw11_made.f k l = some t := fun k hk => at_rounds (g := fun k => horariumlaw11_made.f k l) (fun k => horariumlaw11_made.mono l k) hk hr
  obtain ⟨N, K, hN, hK⟩ : ∃ N K : Nat, 2147600000 ≤ N ∧ N + 3 + 3 < K := ⟨2147600000, 2147600007, by omega, by omega⟩
  refine ⟨K, ?_⟩
  unfold horariumlaw11_BusyLengths.f
  rw [awake_is K (by omega), hr2]
  simp only [Option.bind_some]
  exact few_loop hN (t := t) (by omega) hm 3 r 0 K (by omega) hl2 hK
end Go.Proofs.Ythiepacmdlgajaa.Pure
