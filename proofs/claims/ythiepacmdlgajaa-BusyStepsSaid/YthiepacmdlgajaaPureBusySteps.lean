/- BusySteps, the plain part: steps rise to the length; each is the work of the one ahead of it. -/
import Derived.Test.YthiepacmdlgajaaPBusyStepsx5
import Derived.Test.YthiepacmdlgajaaMRangeX
import Derived.Test.YthiepacmdlgajaaMDem
import Derived.Test.YthiepacmdlgajaaMWork
import Derived.Test.YthiepacmdlgajaaMLcm
import Derived.Test.YthiepacmdlgajaaMBusy

namespace Go.Proofs.Ythiepacmdlgajaa.Pure
open Go.RowKit Go.Proofs.Ythiepacmdlgajaa.PBusySteps Go.Proofs.YthiepacmdlgajaaW.PrintWords Go.Proofs.YthiepacmdlgajaaW.PrintLast Go.Proofs.YthiepacmdlgajaaW.PrintMore
set_option linter.unusedVariables false
set_option linter.unusedSimpArgs false

theorem gcd_loop (k : Nat) : ∀ a b : Int, -9223372036854775807 ≤ a → a ≤ 9223372036854775807 → -9223372036854775807 ≤ b → b ≤ 9223372036854775807 → b.natAbs < k → param_Gcd.l0 k a b = some ((Int.gcd a b : Nat) : Int) := by
  induction k with
  | zero => intro a b _ _ _ _ h; omega
  | succ k ih =>
    intro a b ha1 ha2 hb1 hb2 hk
    simp only [param_Gcd.l0]
    by_cases h : b = 0
    · subst h
      rw [if_pos rfl, Int.gcd_zero_right, w64 (by omega) (by omega)]
      unfold mx
      congr 1
      split <;> omega
    · rw [if_neg h]
      have e : (Int.tmod a b).natAbs = a.natAbs % b.natAbs := Int.natAbs_tmod a b
      have hl : a.natAbs % b.natAbs < b.natAbs := Nat.mod_lt _ (by omega)
      rw [ih b (Int.tmod a b) hb1 hb2 (by omega) (by omega) (by omega)]
      congr 2
      rw [Int.gcd_eq_natAbs_gcd_natAbs, Int.gcd_eq_natAbs_gcd_natAbs, e, Nat.gcd_comm a.natAbs b.natAbs, Nat.gcd_rec b.natAbs a.natAbs, Nat.gcd_comm]
theorem Gcd_is (k : Nat) {a b : Int} (ha1 : -9223372036854775807 ≤ a) (ha2 : a ≤ 9223372036854775807) (hb1 : -9223372036854775807 ≤ b) (hb2 : b ≤ 9223372036854775807) (hk : b.natAbs < k) : param_Gcd.f k a b = some ((Int.gcd a b : Nat) : Int) :=
  gcd_loop k a b ha1 ha2 hb1 hb2 hk

theorem per_go (k : Nat) (hk : 2147483648 < k) (l : List S28) : ∀ (m : Nat), 0 < m → m ≤ 1048576 → (∀ s ∈ l, (tk s).ok) →
    period.go k l (m : Int) = some (if Hm.perFrom m (l.map fun s => s.f3.toNat) ≤ 1048576 then ((Hm.perFrom m (l.map fun s => s.f3.toNat) : Nat) : Int) else 0, if Hm.perFrom m (l.map fun s => s.f3.toNat) ≤ 1048576 then 0 else 16) := by
  induction l with
  | nil => intro m h0 h1 _; simp [period.go, Hm.perFrom, h1]
  | cons s l ih =>
    intro m h0 h1 hok
    obtain ⟨_, _, h2, h3, h4, h5, _, _⟩ := hok s (by simp)
    simp only [tk] at h2 h3 h4 h5
    obtain ⟨t, ht⟩ : ∃ t : Nat, s.f3 = (t : Int) := ⟨s.f3.toNat, by omega⟩
    unfold period.go
    rw [ht, Gcd_is k (by omega) (by omega) (by omega) (by omega) (by omega)]
    simp only [Option.bind_some]
    have hg : Int.gcd (m : Int) (t : Int) = Nat.gcd m t := by simp [Int.gcd_eq_natAbs_gcd_natAbs]
    rw [hg]
    have hgp : 0 < Nat.gcd m t := Nat.gcd_pos_of_pos_left t h0
    rw [if_neg (by omega)]
    have e1 : Int.tdiv (t : Int) ((Nat.gcd m t : Nat) : Int) = ((t / Nat.gcd m t : Nat) : Int) := by rw [Int.tdiv_eq_ediv_of_nonneg (by omega)]; exact (Int.natCast_ediv t (Nat.gcd m t)).symm
    have hq : t / Nat.gcd m t ≤ t := Nat.div_le_self _ _
    rw [e1, w64 (n := ((t / Nat.gcd m t : Nat) : Int)) (by have := Int.natCast_nonneg (t / Nat.gcd m t); omega) (by have : ((t / Nat.gcd m t : Nat) : Int) ≤ (t : Int) := Int.ofNat_le.2 hq; omega)]
    have e2 : (m : Int) * ((t / Nat.gcd m t : Nat) : Int) = ((Nat.lcm m t : Nat) : Int) := by rw [← Hm.mul_quo_gcd (m := m) (t := t) (by omega)]; simp
    have hlcm : Nat.lcm m t ≤ 1048576 * 2147483648 := by
      rw [← Hm.mul_quo_gcd (m := m) (t := t) (by omega)]
      exact Nat.mul_le_mul h1 (by omega)
    rw [e2, w64 (by omega) (by omega)]
    have e3 : (s :: l).map (fun s => s.f3.toNat) = t :: l.map (fun s => s.f3.toNat) := by simp [ht]
    rw [e3]
    rw [show Hm.perFrom m (t :: l.map fun s => s.f3.toNat) = Hm.perFrom (Nat.lcm m t) (l.map fun s => s.f3.toNat) from rfl]
    have hlp : 0 < Nat.lcm m t := Nat.lcm_pos h0 (by omega)
    by_cases hle : Nat.lcm m t ≤ 1048576
    · rw [if_pos (by omega)]
      exact ih (Nat.lcm m t) hlp hle (fun x hx => hok x (by simp [hx]))
    · have hbig : ¬ Hm.perFrom (Nat.lcm m t) (l.map fun s => s.f3.toNat) ≤ 1048576 := by
        have hpos : 0 < Hm.perFrom (Nat.lcm m t) (l.map fun s => s.f3.toNat) := Hm.perFrom_pos hlp (fun x hx => by
          obtain ⟨y, hy, rfl⟩ := List.mem_map.1 hx
          obtain ⟨_, _, g2, g3, g4, _⟩ := hok y (by simp [hy])
          simp only [tk] at g2 g3 g4
          omega)
        have := Nat.le_of_dvd hpos (Hm.perFrom_start (Nat.lcm m t) (l.map fun s => s.f3.toNat))
        omega
      rw [if_neg (by omega), if_neg hbig, if_neg hbig]
theorem per_map (l : List S28) : Hm.per (l.map tk) = Hm.perFrom 1 (l.map fun s => s.f3.toNat) := by
  unfold Hm.per; rw [List.map_map]; rfl
theorem Period_ok {l : List S28} (k : Nat) (h : okL l) (hk : 2147483648 < k) (hp : Hm.per (l.map tk) ≤ 1048576) : param_Period.f k l = some ((Hm.per (l.map tk) : Int), 0) := by
  unfold param_Period.f
  rw [row_yes h]; simp only [Option.bind_some, if_true]
  have e := per_go k hk l 1 (by omega) (by omega) h.2
  rw [← per_map] at e
  rw [if_pos hp, if_pos hp] at e
  exact e
theorem Period_over {l : List S28} (k : Nat) (h : okL l) (hk : 2147483648 < k) (hp : ¬ Hm.per (l.map tk) ≤ 1048576) : param_Period.f k l = some (0, 16) := by
  unfold param_Period.f
  rw [row_yes h]; simp only [Option.bind_some, if_true]
  have e := per_go k hk l 1 (by omega) (by omega) h.2
  rw [← per_map] at e
  rw [if_neg hp, if_neg hp] at e
  exact e
theorem Period_arg {l : List S28} (k : Nat) (h : ¬ okL l) : param_Period.f k l = some (0, 1) := by
  unfold param_Period.f
  rw [row_no h]; rfl

theorem load_loop {p : Int} (h0 : 0 < p) (h1 : p ≤ 1048576) (suf : List S28) : ∀ (pre : List S28) (k : Nat) (acc : Int), okL (pre ++ suf) → suf.length < k → 0 ≤ acc → acc ≤ (pre.length : Int) * 1048576 →
    param_Load.l0 k p acc (pre ++ suf) ((pre ++ suf).length : Int) (pre.length : Int) = some (acc + Hm.loadN (suf.map tk) p, p, 0) := by
  induction suf with
  | nil =>
    intro pre k acc _ hk _ _
    obtain ⟨k, rfl⟩ := some_k hk
    simp only [param_Load.l0, List.append_nil, List.map_nil, Hm.loadN]
    rw [if_neg (by omega)]; simp
  | cons s suf ih =>
    intro pre k acc hok hk ha hb
    obtain ⟨k, rfl⟩ := some_k (show 0 < k by omega)
    have hs : (tk s).ok := hok.2 s (by simp)
    have hw := Hm.load_le hs (p := p) (by omega)
    have hlen := hok.1
    simp only [List.length_append, List.length_cons] at hlen hk
    have hc : (tk s).c = s.f1 := rfl
    have ht : (tk s).t = s.f3 := rfl
    rw [hc, ht] at hw
    obtain ⟨_, _, h2, h3, h4, h5, _, _⟩ := hs
    simp only [tk] at h2 h3 h4 h5
    have i1 : ((pre ++ s :: suf).length : Int) = (pre.length : Int) + ((suf.length : Int) + 1) := by simp
    have i2 := ih (pre ++ [s]) k (acc + s.f1 * (p / s.f3)) (by simpa using hok) (by omega) (by omega) (by simp only [List.length_append, List.length_singleton]; omega)
    simp only [List.append_assoc, List.cons_append, List.nil_append] at i2
    have i3 : ((pre ++ [s]).length : Int) = (pre.length : Int) + 1 := by simp
    rw [i3] at i2
    have hq := Int.ediv_nonneg (show 0 ≤ p by omega) (show 0 ≤ s.f3 by omega)
    have hq2 := Int.ediv_le_self s.f3 (show 0 ≤ p by omega)
    simp only [param_Load.l0]
    rw [if_pos (by omega), if_pos (by omega), if_pos (by omega), rd_mid, if_neg (by omega), Int.tdiv_eq_ediv_of_nonneg (by omega), w64 (n := p / s.f3) (by omega) (by omega)]
    rw [w64 (n := s.f1 * (p / s.f3)) (by omega) (by omega), w64 (n := acc + s.f1 * (p / s.f3)) (by omega) (by omega), w64 (n := (pre.length : Int) + 1) (by omega) (by omega), i2]
    simp only [List.map_cons, Hm.loadN, hc, ht]
    congr 2; omega
theorem Load_ok {l : List S28} (k : Nat) (h : okL l) (hk : 2147483648 < k) (hp : Hm.per (l.map tk) ≤ 1048576) : param_Load.f k l = some (Hm.loadN (l.map tk) (Hm.per (l.map tk) : Int), (Hm.per (l.map tk) : Int), 0) := by
  unfold param_Load.f
  rw [Period_ok k h hk hp]; simp only [Option.bind_some]
  have hpos := Hm.per_pos (okL_map h)
  have hl := h.1
  have := load_loop (p := (Hm.per (l.map tk) : Int)) (by omega) (by omega) l [] k 0 (by simpa using h) (by omega) (by omega) (by simp)
  simpa using this
theorem Load_over {l : List S28} (k : Nat) (h : okL l) (hk : 2147483648 < k) (hp : ¬ Hm.per (l.map tk) ≤ 1048576) : param_Load.f k l = some (0, 0, 16) := by
  unfold param_Load.f
  rw [Period_over k h hk hp]; rfl
theorem Load_arg {l : List S28} (k : Nat) (h : ¬ okL l) : param_Load.f k l = some (0, 0, 1) := by
  unfold param_Load.f
  rw [Period_arg k h]; rfl

theorem Over_ok {l : List S28} (k : Nat) (h : okL l) (hk : 2147483648 < k) (hp : Hm.per (l.map tk) ≤ 1048576) : param_Over.f k l = some (decide (Hm.loadN (l.map tk) (Hm.per (l.map tk) : Int) > (Hm.per (l.map tk) : Int)), 0) := by
  unfold param_Over.f; rw [Load_ok k h hk hp]; rfl
theorem right_fits {l : List S28} (k : Nat) (h : okL l) (hk : 2147483648 < k) (hp : Hm.per (l.map tk) ≤ 1048576) (hf : Hm.loadN (l.map tk) (Hm.per (l.map tk) : Int) ≤ (Hm.per (l.map tk) : Int)) : busy_right.f k l = some 0 := by
  unfold busy_right.f; rw [Over_ok k h hk hp]; simp only [Option.bind_some, if_true]
  rw [if_neg (by simp; omega)]
theorem right_over {l : List S28} (k : Nat) (h : okL l) (hk : 2147483648 < k) (hp : Hm.per (l.map tk) ≤ 1048576) (hf : Hm.loadN (l.map tk) (Hm.per (l.map tk) : Int) > (Hm.per (l.map tk) : Int)) : busy_right.f k l = some 17 := by
  unfold busy_right.f; rw [Over_ok k h hk hp]; simp only [Option.bind_some, if_true]
  rw [if_pos (by simp; omega)]
theorem right_long {l : List S28} (k : Nat) (h : okL l) (hk : 2147483648 < k) (hp : ¬ Hm.per (l.map tk) ≤ 1048576) : busy_right.f k l = some 16 := by
  unfold busy_right.f param_Over.f; rw [Load_over k h hk hp]; rfl
theorem right_arg {l : List S28} (k : Nat) (h : ¬ okL l) : busy_right.f k l = some 1 := by
  unfold busy_right.f param_Over.f; rw [Load_arg k h]; rfl
theorem lastV_cons {x : Int} {xs : List Int} (h : xs ≠ []) : lastV (x :: xs) = lastV xs := by
  unfold lastV; cases xs with
  | nil => exact absurd rfl h
  | cons y ys => rfl
theorem sumF_is {l : List S28} (h : okL l) : sumF l = Hm.sumC (l.map tk) := by
  have key : ∀ (pre suf : List S28), l = pre ++ suf → sumF pre = Hm.sumC (pre.map tk) := by
    intro pre
    generalize hn : pre.length = n
    induction n generalizing pre with
    | zero => intro suf _; have : pre = [] := List.length_eq_zero_iff.1 hn; subst this; rfl
    | succ n ih =>
      intro suf e
      obtain ⟨p, s, rfl⟩ : ∃ p s, pre = p ++ [s] := ⟨pre.dropLast, pre.getLast (by intro h; simp [h] at hn), (List.dropLast_concat_getLast _).symm⟩
      have h1 := ih p (by simpa using hn) (s :: suf) (by simpa using e)
      have h2 : ∀ t ∈ (p ++ [s]).map tk, t.ok := fun t ht => by
        obtain ⟨y, hy, rfl⟩ := List.mem_map.1 ht; exact h.2 y (by rw [e]; exact List.mem_append_left _ hy)
      have h3 := Hm.sumC_le h2
      have hlen := h.1
      rw [e] at hlen
      simp only [List.length_append, List.length_map, List.length_cons, List.length_nil] at hlen h3
      have e2 : Hm.sumC ((p ++ [s]).map tk) = Hm.sumC (p.map tk) + s.f1 := by rw [List.map_append, Hm.sumC_append]; simp [Hm.sumC, tk]
      rw [sumF_snoc, h1, e2, w64 (by omega) (by omega)]
  exact key l [] (by simp)
theorem steps_fix {l : List S28} (hok : okL l) {P : Int} (hP1 : P ≤ 1099511627776) (hP : Hm.work (l.map tk) P ≤ P) : ∀ (k : Nat) (x : Int), (P - x).toNat < k → 0 ≤ x → x ≤ P → x ≤ Hm.work (l.map tk) x →
    ∃ xs, stepsL l k x = some xs ∧ xs ≠ [] ∧ Hm.work (l.map tk) (lastV xs) = lastV xs ∧ x ≤ lastV xs ∧ lastV xs ≤ P ∧ ∀ y, x ≤ y → y < lastV xs → y < Hm.work (l.map tk) y := by
  intro k
  induction k with
  | zero => intro x h; omega
  | succ k ih =>
    intro x hk h0 h1 h2
    have hv := workV_yes hok h0 (show x ≤ 1099511627776 by omega)
    have hm := Hm.work_mono (okL_map hok) h1
    unfold stepsL
    rw [hv]
    by_cases he : Hm.work (l.map tk) x = x
    · rw [if_pos he]
      exact ⟨[x], rfl, by simp, he, Int.le_refl _, h1, fun y hy1 hy2 => by have e : lastV [x] = x := rfl; omega⟩
    · rw [if_neg he]
      obtain ⟨xs, e1, e2, e3, e4, e5, e6⟩ := ih (Hm.work (l.map tk) x) (by omega) (by omega) (by omega) (Hm.work_mono (okL_map hok) h2)
      rw [e1]
      refine ⟨x :: xs, rfl, by simp, ?_⟩
      rw [lastV_cons e2]
      refine ⟨e3, by omega, e5, fun y hy1 hy2 => ?_⟩
      by_cases hy : Hm.work (l.map tk) x ≤ y
      · exact e6 y hy hy2
      · have := Hm.work_mono (okL_map hok) hy1; omega
/-- The length, where tasks fit. -/
theorem Length_fits {l : List S28} (k : Nat) (h : okL l) (hk : 2147483648 < k) (hl : l ≠ []) (hp : Hm.per (l.map tk) ≤ 1048576) (hf : Hm.loadN (l.map tk) (Hm.per (l.map tk) : Int) ≤ (Hm.per (l.map tk) : Int)) :
    ∃ n, busy_Length.f k l = some (n, 0) ∧ Hm.work (l.map tk) n = n ∧ 1 ≤ n ∧ n ≤ (Hm.per (l.map tk) : Int) ∧ ∀ y, 1 ≤ y → y < n → y < Hm.work (l.map tk) y := by
  have hpos := Hm.per_pos (okL_map h)
  have hlen := List.length_pos_iff.2 hl
  have hS := Hm.sumC_le (okL_map h)
  rw [List.length_map] at hS
  have h16 := h.1
  have hW := Hm.work_load (okL_map h) (p := (Hm.per (l.map tk) : Int)) (fun t ht => Hm.per_dvd (okL_map h) ht)
  have h1 := Hm.work_one (okL_map h)
  have hm1 := Hm.work_mono (okL_map h) (show (1 : Int) ≤ (Hm.per (l.map tk) : Int) by omega)
  have hm2 := Hm.work_mono (okL_map h) (show (1 : Int) ≤ Hm.sumC (l.map tk) by omega)
  obtain ⟨xs, e1, e2, e3, e4, e5, e6⟩ := steps_fix h (P := (Hm.per (l.map tk) : Int)) (by omega) (by omega) k (Hm.sumC (l.map tk)) (by omega) (by omega) (by omega) (by omega)
  refine ⟨lastV xs, ?_, e3, by omega, e5, fun y hy1 hy2 => ?_⟩
  · unfold busy_Length.f
    rw [right_fits k h hk hp hf]; simp only [Option.bind_some, if_true]
    rw [if_neg hl, sumF_is h, e1]; rfl
  · by_cases hy : Hm.sumC (l.map tk) ≤ y
    · exact e6 y hy hy2
    · have := Hm.work_mono (okL_map h) hy1; omega
theorem Length_none (k : Nat) (hk : 2147483648 < k) : busy_Length.f k [] = some (0, 0) := by
  have h : okL [] := ⟨by simp, by simp⟩
  unfold busy_Length.f
  rw [right_fits k h hk (by simp [Hm.per, Hm.perFrom]) (by simp [Hm.per, Hm.perFrom, Hm.loadN])]; rfl
theorem Length_over {l : List S28} (k : Nat) (h : okL l) (hk : 2147483648 < k) (hp : Hm.per (l.map tk) ≤ 1048576) (hf : Hm.loadN (l.map tk) (Hm.per (l.map tk) : Int) > (Hm.per (l.map tk) : Int)) : busy_Length.f k l = some (0, 17) := by
  unfold busy_Length.f
  rw [right_over k h hk hp hf]; rfl

/-- Rows of tasks whose periods divide 120. -/
def Ok120 (l : List S28) : Prop := okL l ∧ ∀ s ∈ l, s.f3 ∣ 120
def fits (l : List S28) : Prop := Hm.loadN (l.map tk) 120 ≤ 120
theorem Ok120.dvd {l : List S28} (h : Ok120 l) : ∀ t ∈ l.map tk, t.t ∣ 120 := fun t ht => by
  obtain ⟨y, hy, rfl⟩ := List.mem_map.1 ht; exact h.2 y hy
theorem Ok120.per {l : List S28} (h : Ok120 l) : Hm.per (l.map tk) ≤ 120 := Nat.le_of_dvd (by omega) (Hm.per_least (okL_map h.1) h.dvd)
theorem Ok120.fits {l : List S28} (h : Ok120 l) : fits l ↔ Hm.loadN (l.map tk) (Hm.per (l.map tk) : Int) ≤ (Hm.per (l.map tk) : Int) := Hm.fits_at (okL_map h.1) (by omega) h.dvd
theorem Length_120 {l : List S28} (k : Nat) (h : Ok120 l) (hk : 2147483648 < k) : ∃ n e, busy_Length.f k l = some (n, e) ∧ (e = 0 ∧ fits l ∧ 0 ≤ n ∧ n ≤ 120 ∧ Hm.work (l.map tk) n = n ∧ (l ≠ [] → 1 ≤ n) ∧ (∀ y, 1 ≤ y → y < n → y < Hm.work (l.map tk) y) ∨ e = 17 ∧ n = 0 ∧ ¬ fits l) := by
  have hp := h.per
  by_cases hf : fits l
  · by_cases hl : l = []
    · subst hl
      exact ⟨0, 0, Length_none k hk, Or.inl ⟨rfl, hf, by omega, by omega, rfl, fun h => absurd rfl h, fun y h1 h2 => by omega⟩⟩
    · obtain ⟨n, e1, e2, e3, e4, e5⟩ := Length_fits k h.1 hk hl (by omega) (h.fits.1 hf)
      exact ⟨n, 0, e1, Or.inl ⟨rfl, hf, by omega, by omega, e2, fun _ => e3, e5⟩⟩
  · exact ⟨0, 17, Length_over k h.1 hk (by omega) (Int.not_le.1 (fun h' => hf (h.fits.2 h'))), Or.inr ⟨rfl, rfl, hf⟩⟩

theorem steps_chain {l : List S28} (hok : okL l) {P : Int} (hP1 : P ≤ 1099511627776) (hP : Hm.work (l.map tk) P ≤ P) : ∀ (k : Nat) (x : Int), (P - x).toNat < k → 0 ≤ x → x ≤ P → x ≤ Hm.work (l.map tk) x →
    ∃ xs, stepsL l k x = some (x :: xs) ∧ ((xs.length : Int) ≤ P - x) ∧ (∀ y ∈ x :: xs, 0 ≤ y ∧ y ≤ P) ∧ ∀ i (h : i + 1 < (x :: xs).length), (x :: xs)[i] < (x :: xs)[i + 1] ∧ (x :: xs)[i + 1] = Hm.work (l.map tk) (x :: xs)[i] := by
  intro k
  induction k with
  | zero => intro x h; omega
  | succ k ih =>
    intro x hk h0 h1 h2
    have hv := workV_yes hok h0 (show x ≤ 1099511627776 by omega)
    have hm := Hm.work_mono (okL_map hok) h1
    unfold stepsL
    rw [hv]
    by_cases he : Hm.work (l.map tk) x = x
    · rw [if_pos he]
      exact ⟨[], rfl, by simp; omega, fun y hy => by simp at hy; omega, fun i hi => by simp at hi⟩
    · rw [if_neg he]
      obtain ⟨xs, e1, e2, e3, e4⟩ := ih (Hm.work (l.map tk) x) (by omega) (by omega) (by omega) (Hm.work_mono (okL_map hok) h2)
      rw [e1]
      refine ⟨Hm.work (l.map tk) x :: xs, rfl, by simp only [List.length_cons]; omega, fun y hy => ?_, fun i hi => ?_⟩
      · rcases List.mem_cons.1 hy with rfl | hy
        · omega
        · exact e3 y hy
      · cases i with
        | zero => exact ⟨by show x < Hm.work (l.map tk) x; omega, rfl⟩
        | succ i => exact e4 i (by simpa using hi)
theorem lastV_get (x : Int) (xs : List Int) : lastV (x :: xs) = (x :: xs)[xs.length] := by
  induction xs generalizing x with
  | nil => rfl
  | cons y ys ih => rw [lastV_cons (by simp), ih y]; simp

theorem and_7 (n : Int) : Go.bits .and .i64 n 7 = n % 8 := by
  have h127 : (BitVec.ofInt 64 7).toNat = 2 ^ 3 - 1 := by decide
  have key : (BitVec.ofInt 64 n &&& BitVec.ofInt 64 7).toNat = (n % ((2 ^ 64 : Nat) : Int)).toNat % 2 ^ 3 := by
    rw [BitVec.toNat_and, BitVec.toNat_ofInt, h127, Nat.and_two_pow_sub_one_eq_mod]
  show IntKind.i64.wrap ((BitVec.ofInt 64 n &&& BitVec.ofInt 64 7).toNat : Nat) = n % 8
  rw [key, IntKind.wrap_i64]
  omega

/-- Tasks by numbers. -/
def MadeP (r : List S28) : Prop := ∀ i (h : i < r.length), (r[i]).f0 = (i : Int) ∧ 1 ≤ (r[i]).f1 ∧ (r[i]).f1 ≤ (r[i]).f2 ∧ (r[i]).f2 ≤ (r[i]).f3 ∧ 2 ≤ (r[i]).f3 ∧ (r[i]).f3 ≤ 12 ∧ (r[i]).f3 ∣ 120 ∧ 1 ≤ (r[i]).f4 ∧ (r[i]).f4 ≤ 15
theorem mod_rng (a : Int) {m : Int} (h : 1 ≤ m) (hm : m ≤ 24) : 1 ≤ wrap64 (1 + Int.tmod (wrap64 (Int.tmod a m + m)) m) ∧ wrap64 (1 + Int.tmod (wrap64 (Int.tmod a m + m)) m) ≤ m := by
  have h1 : -m < Int.tmod a m ∧ Int.tmod a m < m := by
    rcases Int.le_total 0 a with ha | ha
    · have h2 := Int.tmod_lt_of_pos a (show 0 < m by omega); have h3 := Int.tmod_nonneg m ha; omega
    · have h2 := Int.tmod_lt_of_pos (-a) (show 0 < m by omega); have h3 := Int.tmod_nonneg m (show 0 ≤ -a by omega)
      rw [Int.neg_tmod] at h2 h3; omega
  rw [w64 (n := Int.tmod a m + m) (by omega) (by omega)]
  have h4 := Int.tmod_lt_of_pos (Int.tmod a m + m) (show 0 < m by omega); have h5 := Int.tmod_nonneg m (show 0 ≤ Int.tmod a m + m by omega)
  rw [w64 (by omega) (by omega)]; omega
theorem per_rng (j : Int) (h0 : 0 ≤ j) (h1 : j < 8) : 2 ≤ rd [2, 3, 4, 5, 6, 8, 10, 12] j ∧ rd [2, 3, 4, 5, 6, 8, 10, 12] j ≤ 12 ∧ rd [2, 3, 4, 5, 6, 8, 10, 12] j ∣ 120 := by
  have : j = 0 ∨ j = 1 ∨ j = 2 ∨ j = 3 ∨ j = 4 ∨ j = 5 ∨ j = 6 ∨ j = 7 := by omega
  rcases this with rfl | rfl | rfl | rfl | rfl | rfl | rfl | rfl <;> decide
theorem made_loop (l : List S31) (d : Nat) : ∀ (k i : Nat) (r : List S28), i + d = min l.length 8 → d < k → r.length = i → MadeP r →
    ∃ r', horariumlaw11_made.l0 k l r (i : Int) 2 3 4 5 6 8 10 12 = some r' ∧ r'.length = min l.length 8 ∧ MadeP r' := by
  induction d with
  | zero =>
    intro k i r hd hk hr hm
    obtain ⟨k, rfl⟩ := some_k hk
    refine ⟨r, ?_, by omega, hm⟩
    simp only [horariumlaw11_made.l0]
    by_cases h : (i : Int) < (l.length : Int)
    · rw [if_pos h, if_neg (by omega)]
    · rw [if_neg h]
  | succ d ih =>
    intro k i r hd hk hr hm
    obtain ⟨k, rfl⟩ := some_k (show 0 < k by omega)
    simp only [horariumlaw11_made.l0]
    rw [and_7, if_pos (by omega), if_pos (by omega), if_pos (by omega), if_pos (by omega), if_pos (by omega)]
    have hT := per_rng ((rd_T31 l (i : Int)).f2 % 8) (by omega) (by omega)
    generalize rd [2, 3, 4, 5, 6, 8, 10, 12] ((rd_T31 l (i : Int)).f2 % 8) = T at hT ⊢
    rw [if_neg (by omega)]
    have hD := mod_rng (rd_T31 l (i : Int)).f1 (m := T) (by omega) (by omega)
    generalize wrap64 (1 + Int.tmod (wrap64 (Int.tmod (rd_T31 l (i : Int)).f1 T + T)) T) = D at hD ⊢
    rw [if_neg (by omega), if_pos (by omega)]
    have hC := mod_rng (rd_T31 l (i : Int)).f0 (m := D) (by omega) (by omega)
    generalize wrap64 (1 + Int.tmod (wrap64 (Int.tmod (rd_T31 l (i : Int)).f0 D + D)) D) = C at hC ⊢
    rw [w64 (n := (i : Int) + 1) (by omega) (by omega)]
    have e : ((i : Int) + 1) = ((i + 1 : Nat) : Int) := by omega
    rw [e]
    refine ih k (i + 1) _ (by omega) (by omega) (by simp [hr]) ?_
    intro j hj
    by_cases h : j < r.length
    · rw [List.getElem_append_left h]; exact hm j h
    · have hj2 : j = r.length := by simp at hj; omega
      subst hj2
      rw [List.getElem_append_right (by omega)]
      simp only [Nat.sub_self, List.getElem_cons_zero]
      refine ⟨by omega, by omega, by omega, by omega, by omega, by omega, hT.2.2, ?_, ?_⟩ <;> omega
theorem made_is (l : List S31) (k : Nat) (hk : 8 < k) : ∃ r, horariumlaw11_made.f k l = some r ∧ r.length = min l.length 8 ∧ MadeP r := by
  unfold horariumlaw11_made.f
  exact made_loop l (min l.length 8) k 0 [] (by omega) (by omega) rfl (fun i h => by simp at h)
theorem MadeP.okL {r : List S28} (h : MadeP r) (hl : r.length ≤ 16) : okL r := by
  refine ⟨hl, fun s hs => ?_⟩
  obtain ⟨i, hi, rfl⟩ := List.getElem_of_mem hs
  have := h i hi
  unfold Hm.Tk.ok tk
  simp only
  omega
theorem rd_at {r : List S28} {i : Nat} (hi : i < r.length) : rd_T28 r (i : Int) = r[i] := by
  simp [rd_T28, hi]

theorem awake_is : ∀ k, 60 ≤ k → horariumlaw11_awake.f k = some true := by
  have h : horariumlaw11_awake.f 60 = some true := by decide +kernel
  intro k hk
  exact at_rounds (horariumlaw11_awake.mono) hk h

theorem made_120 {t : List S28} (hm : MadeP t) (hl : t.length ≤ 16) : Ok120 t := ⟨hm.okL hl, fun s hs => by
  obtain ⟨i, hi, rfl⟩ := List.getElem_of_mem hs
  exact (hm i hi).2.2.2.2.2.2.1⟩
theorem rd_get {xs : List Int} {i : Nat} (h : i < xs.length) : rd xs (i : Int) = xs[i] := by simp [rd, h]
theorem steps_loop {t : List S28} (hok : okL t) {xs : List Int} (hpos : 0 < xs.length) (hlen : xs.length < 1000000) (hb : ∀ y ∈ xs, 0 ≤ y ∧ y ≤ 1000000) (hc : ∀ i (h : i + 1 < xs.length), xs[i] < xs[i + 1] ∧ xs[i + 1] = Hm.work (t.map tk) xs[i]) (h1 : Hm.work (t.map tk) 1 = xs[0]) (d : Nat) :
    ∀ (k i : Nat), i + 1 + d = xs.length → d + 20 < k → horariumlaw11_BusySteps.l0 k true t xs ((i : Int) + 1) = some true := by
  induction d with
  | zero =>
    intro k i hd hk
    obtain ⟨k, rfl⟩ := some_k (show 0 < k by omega)
    simp only [horariumlaw11_BusySteps.l0, if_true]
    rw [if_neg (by omega), Work_all k t 1 (by omega), workV_yes hok (by omega) (by omega)]
    simp only [Option.bind_some]
    rw [if_pos (by omega), h1, show rd xs 0 = xs[0] from rd_get hpos]; simp
  | succ d ih =>
    intro k i hd hk
    obtain ⟨k, rfl⟩ := some_k (show 0 < k by omega)
    have hi : i + 1 < xs.length := by omega
    have hci := hc i hi
    have hbi := hb xs[i] (List.getElem_mem _)
    simp only [horariumlaw11_BusySteps.l0]
    rw [show (i : Int) + 1 - 1 = (i : Int) by omega, w64 (n := (i : Int)) (by omega) (by omega), if_pos (by omega), if_pos (by omega), if_pos (by omega), if_pos (by omega), rd_get (show i < xs.length by omega), show (i : Int) + 1 = ((i + 1 : Nat) : Int) by omega, rd_get hi, if_neg (by omega), Work_all k t _ (by omega), workV_yes hok hbi.1 (by omega)]
    simp only [Option.bind_some]
    rw [if_pos hci.2, w64 (by omega) (by omega)]
    exact ih k (i + 1) (by omega) (by omega)
theorem BusySteps : horariumlaw11_BusySteps.Pure := by
  intro l _ _
  obtain ⟨t, hr, hl, hm⟩ := made_is l 3000000000 (by omega)
  have ht := made_120 hm (by omega)
  have hok := ht.1
  have hp := ht.per
  have hpos := Hm.per_pos (okL_map hok)
  refine ⟨3000000000, ?_⟩
  generalize hK : (3000000000 : Nat) = K at hr ⊢
  unfold horariumlaw11_BusySteps.f
  rw [awake_is K (by omega), hr]
  simp only [Option.bind_some]
  by_cases hf : Hm.loadN (t.map tk) (Hm.per (t.map tk) : Int) ≤ (Hm.per (t.map tk) : Int)
  · by_cases he : t = []
    · subst he
      have hs : busy_Steps.f K [] = some [] := by
        unfold busy_Steps.f
        rw [right_fits K hok (by omega) (by omega) hf]; rfl
      rw [hs, Length_none K (by omega)]; rfl
    · have hlen := List.length_pos_iff.2 he
      have hS := Hm.sumC_le (okL_map hok)
      rw [List.length_map] at hS
      have hW := Hm.work_load (okL_map hok) (p := (Hm.per (t.map tk) : Int)) (fun s hs => Hm.per_dvd (okL_map hok) hs)
      have h1 := Hm.work_one (okL_map hok)
      have hm1 := Hm.work_mono (okL_map hok) (show (1 : Int) ≤ (Hm.per (t.map tk) : Int) by omega)
      have hm2 := Hm.work_mono (okL_map hok) (show (1 : Int) ≤ Hm.sumC (t.map tk) by omega)
      obtain ⟨xs, e1, e2, e3, e4⟩ := steps_chain hok (P := (Hm.per (t.map tk) : Int)) (by omega) (by omega) K (Hm.sumC (t.map tk)) (by omega) (by omega) (by omega) (by omega)
      have hs : busy_Steps.f K t = some (Hm.sumC (t.map tk) :: xs) := by
        unfold busy_Steps.f
        rw [right_fits K hok (by omega) (by omega) hf]; simp only [Option.bind_some, if_true]
        rw [if_neg he, sumF_is hok, e1]; simp only [Option.bind_some]
        rw [if_pos (by simp; omega)]
      have hn : busy_Length.f K t = some (lastV (Hm.sumC (t.map tk) :: xs), 0) := by
        unfold busy_Length.f
        rw [right_fits K hok (by omega) (by omega) hf]; simp only [Option.bind_some, if_true]
        rw [if_neg he, sumF_is hok, e1]; rfl
      rw [hs, hn]
      simp only [Option.bind_some, if_true]
      have hL : ((Hm.sumC (t.map tk) :: xs).length : Int) = (xs.length : Int) + 1 := by simp
      rw [hL, if_neg (by omega), show (xs.length : Int) + 1 - 1 = (xs.length : Int) by omega, w64 (n := (xs.length : Int)) (by omega) (by omega), if_pos (by omega), if_pos (by omega), rd_get (show xs.length < (Hm.sumC (t.map tk) :: xs).length by simp), lastV_get]
      obtain ⟨K', rfl⟩ := some_k (show 0 < K by omega)
      simp only [horariumlaw11_BusySteps.j0, bne_self_eq_false]
      rw [if_neg (by simp)]
      exact steps_loop hok (xs := Hm.sumC (t.map tk) :: xs) (by simp) (by simp; omega) (fun y hy => by have := e3 y hy; omega) e4 (by simpa using h1) xs.length K' 0 (by simp; omega) (by omega)
  · have hf' := Int.not_le.1 hf
    have hs : busy_Steps.f K t = some [] := by
      unfold busy_Steps.f
      rw [right_over K hok (by omega) (by omega) hf']; rfl
    rw [hs, Length_over K hok (by omega) (by omega) hf']; rfl
end Go.Proofs.Ythiepacmdlgajaa.Pure
