/- BusyMore, the plain part: with one task more the length is not shorter; a task alone works just its C. -/
import Derived.Test.YthiepacmdlgajaaPBusyMorex4
import Derived.Test.YthiepacmdlgajaaMRangeX
import Derived.Test.YthiepacmdlgajaaMDem
import Derived.Test.YthiepacmdlgajaaMWork
import Derived.Test.YthiepacmdlgajaaMLcm
import Derived.Test.YthiepacmdlgajaaMBusy

namespace Go.Proofs.Ythiepacmdlgajaa.Pure
open Go.RowKit Go.Proofs.Ythiepacmdlgajaa.PBusyMore Go.Proofs.YthiepacmdlgajaaW.PrintWords Go.Proofs.YthiepacmdlgajaaW.PrintLast Go.Proofs.YthiepacmdlgajaaW.PrintMore
set_option linter.unusedVariables false
set_option linter.unusedSimpArgs false

theorem gcd_loop (k : Nat) : ∀ a b : Int, -9223372036854775807 ≤ a → a ≤ 9223372036854775807 → -9223372036854775807 ≤ b → b ≤ 9223372036854775807 → b.natAbs < k → param_Gcd.l0 k a b = some ((Int.gcd a b : Nat) : Int) := by
  induction k with
  | zero => intro a b _ _ _ _ h; omega
  | succ k ih =>
    intro a b ha1 ha2 hb1 hb2 hk
    simp only [param_Gcd.l0]
    by_cases h : b = 0
    · subst h
      rw [if_pos rfl, Int.gcd_zero_right, w64 (by omega) (by omega)]
      unfold mx
      congr 1
      split <;> omega
    · rw [if_neg h]
      have e : (Int.tmod a b).natAbs = a.natAbs % b.natAbs := Int.natAbs_tmod a b
      have hl : a.natAbs % b.natAbs < b.natAbs := Nat.mod_lt _ (by omega)
      rw [ih b (Int.tmod a b) hb1 hb2 (by omega) (by omega) (by omega)]
      congr 2
      rw [Int.gcd_eq_natAbs_gcd_natAbs, Int.gcd_eq_natAbs_gcd_natAbs, e, Nat.gcd_comm a.natAbs b.natAbs, Nat.gcd_rec b.natAbs a.natAbs, Nat.gcd_comm]
theorem Gcd_is (k : Nat) {a b : Int} (ha1 : -9223372036854775807 ≤ a) (ha2 : a ≤ 9223372036854775807) (hb1 : -9223372036854775807 ≤ b) (hb2 : b ≤ 9223372036854775807) (hk : b.natAbs < k) : param_Gcd.f k a b = some ((Int.gcd a b : Nat) : Int) :=
  gcd_loop k a b ha1 ha2 hb1 hb2 hk

theorem per_go (k : Nat) (hk : 2147483648 < k) (l : List S28) : ∀ (m : Nat), 0 < m → m ≤ 1048576 → (∀ s ∈ l, (tk s).ok) →
    period.go k l (m : Int) = some (if Hm.perFrom m (l.map fun s => s.f3.toNat) ≤ 1048576 then ((Hm.perFrom m (l.map fun s => s.f3.toNat) : Nat) : Int) else 0, if Hm.perFrom m (l.map fun s => s.f3.toNat) ≤ 1048576 then 0 else 16) := by
  induction l with
  | nil => intro m h0 h1 _; simp [period.go, Hm.perFrom, h1]
  | cons s l ih =>
    intro m h0 h1 hok
    obtain ⟨_, _, h2, h3, h4, h5, _, _⟩ := hok s (by simp)
    simp only [tk] at h2 h3 h4 h5
    obtain ⟨t, ht⟩ : ∃ t : Nat, s.f3 = (t : Int) := ⟨s.f3.toNat, by omega⟩
    unfold period.go
    rw [ht, Gcd_is k (by omega) (by omega) (by omega) (by omega) (by omega)]
    simp only [Option.bind_some]
    have hg : Int.gcd (m : Int) (t : Int) = Nat.gcd m t := by simp [Int.gcd_eq_natAbs_gcd_natAbs]
    rw [hg]
    have hgp : 0 < Nat.gcd m t := Nat.gcd_pos_of_pos_left t h0
    rw [if_neg (by omega)]
    have e1 : Int.tdiv (t : Int) ((Nat.gcd m t : Nat) : Int) = ((t / Nat.gcd m t : Nat) : Int) := by rw [Int.tdiv_eq_ediv_of_nonneg (by omega)]; exact (Int.natCast_ediv t (Nat.gcd m t)).symm
    have hq : t / Nat.gcd m t ≤ t := Nat.div_le_self _ _
    rw [e1, w64 (n := ((t / Nat.gcd m t : Nat) : Int)) (by have := Int.natCast_nonneg (t / Nat.gcd m t); omega) (by have : ((t / Nat.gcd m t : Nat) : Int) ≤ (t : Int) := Int.ofNat_le.2 hq; omega)]
    have e2 : (m : Int) * ((t / Nat.gcd m t : Nat) : Int) = ((Nat.lcm m t : Nat) : Int) := by rw [← Hm.mul_quo_gcd (m := m) (t := t) (by omega)]; simp
    have hlcm : Nat.lcm m t ≤ 1048576 * 2147483648 := by
      rw [← Hm.mul_quo_gcd (m := m) (t := t) (by omega)]
      exact Nat.mul_le_mul h1 (by omega)
    rw [e2, w64 (by omega) (by omega)]
    have e3 : (s :: l).map (fun s => s.f3.toNat) = t :: l.map (fun s => s.f3.toNat) := by simp [ht]
    rw [e3]
    rw [show Hm.perFrom m (t :: l.map fun s => s.f3.toNat) = Hm.perFrom (Nat.lcm m t) (l.map fun s => s.f3.toNat) from rfl]
    have hlp : 0 < Nat.lcm m t := Nat.lcm_pos h0 (by omega)
    by_cases hle : Nat.lcm m t ≤ 1048576
    · rw [if_pos (by omega)]
      exact ih (Nat.lcm m t) hlp hle (fun x hx => hok x (by simp [hx]))
    · have hbig : ¬ Hm.perFrom (Nat.lcm m t) (l.map fun s => s.f3.toNat) ≤ 1048576 := by
        have hpos : 0 < Hm.perFrom (Nat.lcm m t) (l.map fun s => s.f3.toNat) := Hm.perFrom_pos hlp (fun x hx => by
          obtain ⟨y, hy, rfl⟩ := List.mem_map.1 hx
          obtain ⟨_, _, g2, g3, g4, _⟩ := hok y (by simp [hy])
          simp only [tk] at g2 g3 g4
          omega)
        have := Nat.le_of_dvd hpos (Hm.perFrom_start (Nat.lcm m t) (l.map fun s => s.f3.toNat))
        omega
      rw [if_neg (by omega), if_neg hbig, if_neg hbig]
theorem per_map (l : List S28) : Hm.per (l.map tk) = Hm.perFrom 1 (l.map fun s => s.f3.toNat) := by
  unfold Hm.per; rw [List.map_map]; rfl
theorem Period_ok {l : List S28} (k : Nat) (h : okL l) (hk : 2147483648 < k) (hp : Hm.per (l.map tk) ≤ 1048576) : param_Period.f k l = some ((Hm.per (l.map tk) : Int), 0) := by
  unfold param_Period.f
  rw [row_yes h]; simp only [Option.bind_some, if_true]
  have e := per_go k hk l 1 (by omega) (by omega) h.2
  rw [← per_map] at e
  rw [if_pos hp, if_pos hp] at e
  exact e
theorem Period_over {l : List S28} (k : Nat) (h : okL l) (hk : 2147483648 < k) (hp : ¬ Hm.per (l.map tk) ≤ 1048576) : param_Period.f k l = some (0, 16) := by
  unfold param_Period.f
  rw [row_yes h]; simp only [Option.bind_some, if_true]
  have e := per_go k hk l 1 (by omega) (by omega) h.2
  rw [← per_map] at e
  rw [if_neg hp, if_neg hp] at e
  exact e
theorem Period_arg {l : List S28} (k : Nat) (h : ¬ okL l) : param_Period.f k l = some (0, 1) := by
  unfold param_Period.f
  rw [row_no h]; rfl

theorem load_loop {p : Int} (h0 : 0 < p) (h1 : p ≤ 1048576) (suf : List S28) : ∀ (pre : List S28) (k : Nat) (acc : Int), okL (pre ++ suf) → suf.length < k → 0 ≤ acc → acc ≤ (pre.length : Int) * 1048576 →
    param_Load.l0 k p acc (pre ++ suf) ((pre ++ suf).length : Int) (pre.length : Int) = some (acc + Hm.loadN (suf.map tk) p, p, 0) := by
  induction suf with
  | nil =>
    intro pre k acc _ hk _ _
    obtain ⟨k, rfl⟩ := some_k hk
    simp only [param_Load.l0, List.append_nil, List.map_nil, Hm.loadN]
    rw [if_neg (by omega)]; simp
  | cons s suf ih =>
    intro pre k acc hok hk ha hb
    obtain ⟨k, rfl⟩ := some_k (show 0 < k by omega)
    have hs : (tk s).ok := hok.2 s (by simp)
    have hw := Hm.load_le hs (p := p) (by omega)
    have hlen := hok.1
    simp only [List.length_append, List.length_cons] at hlen hk
    have hc : (tk s).c = s.f1 := rfl
    have ht : (tk s).t = s.f3 := rfl
    rw [hc, ht] at hw
    obtain ⟨_, _, h2, h3, h4, h5, _, _⟩ := hs
    simp only [tk] at h2 h3 h4 h5
    have i1 : ((pre ++ s :: suf).length : Int) = (pre.length : Int) + ((suf.length : Int) + 1) := by simp
    have i2 := ih (pre ++ [s]) k (acc + s.f1 * (p / s.f3)) (by simpa using hok) (by omega) (by omega) (by simp only [List.length_append, List.length_singleton]; omega)
    simp only [List.append_assoc, List.cons_append, List.nil_append] at i2
    have i3 : ((pre ++ [s]).length : Int) = (pre.length : Int) + 1 := by simp
    rw [i3] at i2
    have hq := Int.ediv_nonneg (show 0 ≤ p by omega) (show 0 ≤ s.f3 by omega)
    have hq2 := Int.ediv_le_self s.f3 (show 0 ≤ p by omega)
    simp only [param_Load.l0]
    rw [if_pos (by omega), if_pos (by omega), if_pos (by omega), rd_mid, if_neg (by omega), Int.tdiv_eq_ediv_of_nonneg (by omega), w64 (n := p / s.f3) (by omega) (by omega)]
    rw [w64 (n := s.f1 * (p / s.f3)) (by omega) (by omega), w64 (n := acc + s.f1 * (p / s.f3)) (by omega) (by omega), w64 (n := (pre.length : Int) + 1) (by omega) (by omega), i2]
    simp only [List.map_cons, Hm.loadN, hc, ht]
    congr 2; omega
theorem Load_ok {l : List S28} (k : Nat) (h : okL l) (hk : 2147483648 < k) (hp : Hm.per (l.map tk) ≤ 1048576) : param_Load.f k l = some (Hm.loadN (l.map tk) (Hm.per (l.map tk) : Int), (Hm.per (l.map tk) : Int), 0) := by
  unfold param_Load.f
  rw [Period_ok k h hk hp]; simp only [Option.bind_some]
  have hpos := Hm.per_pos (okL_map h)
  have hl := h.1
  have := load_loop (p := (Hm.per (l.map tk) : Int)) (by omega) (by omega) l [] k 0 (by simpa using h) (by omega) (by omega) (by simp)
  simpa using this
theorem Load_over {l : List S28} (k : Nat) (h : okL l) (hk : 2147483648 < k) (hp : ¬ Hm.per (l.map tk) ≤ 1048576) : param_Load.f k l = some (0, 0, 16) := by
  unfold param_Load.f
  rw [Period_over k h hk hp]; rfl
theorem Load_arg {l : List S28} (k : Nat) (h : ¬ okL l) : param_Load.f k l = some (0, 0, 1) := by
  unfold param_Load.f
  rw [Period_arg k h]; rfl

theorem Over_ok {l : List S28} (k : Nat) (h : okL l) (hk : 2147483648 < k) (hp : Hm.per (l.map tk) ≤ 1048576) : param_Over.f k l = some (decide (Hm.loadN (l.map tk) (Hm.per (l.map tk) : Int) > (Hm.per (l.map tk) : Int)), 0) := by
  unfold param_Over.f; rw [Load_ok k h hk hp]; rfl
theorem right_fits {l : List S28} (k : Nat) (h : okL l) (hk : 2147483648 < k) (hp : Hm.per (l.map tk) ≤ 1048576) (hf : Hm.loadN (l.map tk) (Hm.per (l.map tk) : Int) ≤ (Hm.per (l.map tk) : Int)) : busy_right.f k l = some 0 := by
  unfold busy_right.f; rw [Over_ok k h hk hp]; simp only [Option.bind_some, if_true]
  rw [if_neg (by simp; omega)]
theorem right_over {l : List S28} (k : Nat) (h : okL l) (hk : 2147483648 < k) (hp : Hm.per (l.map tk) ≤ 1048576) (hf : Hm.loadN (l.map tk) (Hm.per (l.map tk) : Int) > (Hm.per (l.map tk) : Int)) : busy_right.f k l = some 17 := by
  unfold busy_right.f; rw [Over_ok k h hk hp]; simp only [Option.bind_some, if_true]
  rw [if_pos (by simp; omega)]
theorem right_long {l : List S28} (k : Nat) (h : okL l) (hk : 2147483648 < k) (hp : ¬ Hm.per (l.map tk) ≤ 1048576) : busy_right.f k l = some 16 := by
  unfold busy_right.f param_Over.f; rw [Load_over k h hk hp]; rfl
theorem right_arg {l : List S28} (k : Nat) (h : ¬ okL l) : busy_right.f k l = some 1 := by
  unfold busy_right.f param_Over.f; rw [Load_arg k h]; rfl
theorem lastV_cons {x : Int} {xs : List Int} (h : xs ≠ []) : lastV (x :: xs) = lastV xs := by
  unfold lastV; cases xs with
  | nil => exact absurd rfl h
  | cons y ys => rfl
theorem sumF_is {l : List S28} (h : okL l) : sumF l = Hm.sumC (l.map tk) := by
  have key : ∀ (pre suf : List S28), l = pre ++ suf → sumF pre = Hm.sumC (pre.map tk) := by
    intro pre
    generalize hn : pre.length = n
    induction n generalizing pre with
    | zero => intro suf _; have : pre = [] := List.length_eq_zero_iff.1 hn; subst this; rfl
    | succ n ih =>
      intro suf e
      obtain ⟨p, s, rfl⟩ : ∃ p s, pre = p ++ [s] := ⟨pre.dropLast, pre.getLast (by intro h; simp [h] at hn), (List.dropLast_concat_getLast _).symm⟩
      have h1 := ih p (by simpa using hn) (s :: suf) (by simpa using e)
      have h2 : ∀ t ∈ (p ++ [s]).map tk, t.ok := fun t ht => by
        obtain ⟨y, hy, rfl⟩ := List.mem_map.1 ht; exact h.2 y (by rw [e]; exact List.mem_append_left _ hy)
      have h3 := Hm.sumC_le h2
      have hlen := h.1
      rw [e] at hlen
      simp only [List.length_append, List.length_map, List.length_cons, List.length_nil] at hlen h3
      have e2 : Hm.sumC ((p ++ [s]).map tk) = Hm.sumC (p.map tk) + s.f1 := by rw [List.map_append, Hm.sumC_append]; simp [Hm.sumC, tk]
      rw [sumF_snoc, h1, e2, w64 (by omega) (by omega)]
  exact key l [] (by simp)
theorem steps_fix {l : List S28} (hok : okL l) {P : Int} (hP1 : P ≤ 1099511627776) (hP : Hm.work (l.map tk) P ≤ P) : ∀ (k : Nat) (x : Int), (P - x).toNat < k → 0 ≤ x → x ≤ P → x ≤ Hm.work (l.map tk) x →
    ∃ xs, stepsL l k x = some xs ∧ xs ≠ [] ∧ Hm.work (l.map tk) (lastV xs) = lastV xs ∧ x ≤ lastV xs ∧ lastV xs ≤ P ∧ ∀ y, x ≤ y → y < lastV xs → y < Hm.work (l.map tk) y := by
  intro k
  induction k with
  | zero => intro x h; omega
  | succ k ih =>
    intro x hk h0 h1 h2
    have hv := workV_yes hok h0 (show x ≤ 1099511627776 by omega)
    have hm := Hm.work_mono (okL_map hok) h1
    unfold stepsL
    rw [hv]
    by_cases he : Hm.work (l.map tk) x = x
    · rw [if_pos he]
      exact ⟨[x], rfl, by simp, he, Int.le_refl _, h1, fun y hy1 hy2 => by have e : lastV [x] = x := rfl; omega⟩
    · rw [if_neg he]
      obtain ⟨xs, e1, e2, e3, e4, e5, e6⟩ := ih (Hm.work (l.map tk) x) (by omega) (by omega) (by omega) (Hm.work_mono (okL_map hok) h2)
      rw [e1]
      refine ⟨x :: xs, rfl, by simp, ?_⟩
      rw [lastV_cons e2]
      refine ⟨e3, by omega, e5, fun y hy1 hy2 => ?_⟩
      by_cases hy : Hm.work (l.map tk) x ≤ y
      · exact e6 y hy hy2
      · have := Hm.work_mono (okL_map hok) hy1; omega
/-- The length, where tasks fit. -/
theorem Length_fits {l : List S28} (k : Nat) (h : okL l) (hk : 2147483648 < k) (hl : l ≠ []) (hp : Hm.per (l.map tk) ≤ 1048576) (hf : Hm.loadN (l.map tk) (Hm.per (l.map tk) : Int) ≤ (Hm.per (l.map tk) : Int)) :
    ∃ n, busy_Length.f k l = some (n, 0) ∧ Hm.work (l.map tk) n = n ∧ 1 ≤ n ∧ n ≤ (Hm.per (l.map tk) : Int) ∧ ∀ y, 1 ≤ y → y < n → y < Hm.work (l.map tk) y := by
  have hpos := Hm.per_pos (okL_map h)
  have hlen := List.length_pos_iff.2 hl
  have hS := Hm.sumC_le (okL_map h)
  rw [List.length_map] at hS
  have h16 := h.1
  have hW := Hm.work_load (okL_map h) (p := (Hm.per (l.map tk) : Int)) (fun t ht => Hm.per_dvd (okL_map h) ht)
  have h1 := Hm.work_one (okL_map h)
  have hm1 := Hm.work_mono (okL_map h) (show (1 : Int) ≤ (Hm.per (l.map tk) : Int) by omega)
  have hm2 := Hm.work_mono (okL_map h) (show (1 : Int) ≤ Hm.sumC (l.map tk) by omega)
  obtain ⟨xs, e1, e2, e3, e4, e5, e6⟩ := steps_fix h (P := (Hm.per (l.map tk) : Int)) (by omega) (by omega) k (Hm.sumC (l.map tk)) (by omega) (by omega) (by omega) (by omega)
  refine ⟨lastV xs, ?_, e3, by omega, e5, fun y hy1 hy2 => ?_⟩
  · unfold busy_Length.f
    rw [right_fits k h hk hp hf]; simp only [Option.bind_some, if_true]
    rw [if_neg hl, sumF_is h, e1]; rfl
  · by_cases hy : Hm.sumC (l.map tk) ≤ y
    · exact e6 y hy hy2
    · have := Hm.work_mono (okL_map h) hy1; omega
theorem Length_none (k : Nat) (hk : 2147483648 < k) : busy_Length.f k [] = some (0, 0) := by
  have h : okL [] := ⟨by simp, by simp⟩
  unfold busy_Length.f
  rw [right_fits k h hk (by simp [Hm.per, Hm.perFrom]) (by simp [Hm.per, Hm.perFrom, Hm.loadN])]; rfl
theorem Length_over {l : List S28} (k : Nat) (h : okL l) (hk : 2147483648 < k) (hp : Hm.per (l.map tk) ≤ 1048576) (hf : Hm.loadN (l.map tk) (Hm.per (l.map tk) : Int) > (Hm.per (l.map tk) : Int)) : busy_Length.f k l = some (0, 17) := by
  unfold busy_Length.f
  rw [right_over k h hk hp hf]; rfl

/-- Rows of tasks whose periods divide 120. -/
def Ok120 (l : List S28) : Prop := okL l ∧ ∀ s ∈ l, s.f3 ∣ 120
def fits (l : List S28) : Prop := Hm.loadN (l.map tk) 120 ≤ 120
theorem Ok120.dvd {l : List S28} (h : Ok120 l) : ∀ t ∈ l.map tk, t.t ∣ 120 := fun t ht => by
  obtain ⟨y, hy, rfl⟩ := List.mem_map.1 ht; exact h.2 y hy
theorem Ok120.per {l : List S28} (h : Ok120 l) : Hm.per (l.map tk) ≤ 120 := Nat.le_of_dvd (by omega) (Hm.per_least (okL_map h.1) h.dvd)
theorem Ok120.fits {l : List S28} (h : Ok120 l) : fits l ↔ Hm.loadN (l.map tk) (Hm.per (l.map tk) : Int) ≤ (Hm.per (l.map tk) : Int) := Hm.fits_at (okL_map h.1) (by omega) h.dvd
theorem Length_120 {l : List S28} (k : Nat) (h : Ok120 l) (hk : 2147483648 < k) : ∃ n e, busy_Length.f k l = some (n, e) ∧ (e = 0 ∧ fits l ∧ 0 ≤ n ∧ n ≤ 120 ∧ Hm.work (l.map tk) n = n ∧ (l ≠ [] → 1 ≤ n) ∧ (∀ y, 1 ≤ y → y < n → y < Hm.work (l.map tk) y) ∨ e = 17 ∧ n = 0 ∧ ¬ fits l) := by
  have hp := h.per
  by_cases hf : fits l
  · by_cases hl : l = []
    · subst hl
      exact ⟨0, 0, Length_none k hk, Or.inl ⟨rfl, hf, by omega, by omega, rfl, fun h => absurd rfl h, fun y h1 h2 => by omega⟩⟩
    · obtain ⟨n, e1, e2, e3, e4, e5⟩ := Length_fits k h.1 hk hl (by omega) (h.fits.1 hf)
      exact ⟨n, 0, e1, Or.inl ⟨rfl, hf, by omega, by omega, e2, fun _ => e3, e5⟩⟩
  · exact ⟨0, 17, Length_over k h.1 hk (by omega) (Int.not_le.1 (fun h' => hf (h.fits.2 h'))), Or.inr ⟨rfl, rfl, hf⟩⟩

theorem rcheck_is (s : S28) : horariumref09_Check.f s.f0 s.f1 s.f2 s.f3 s.f4 = some (taskB s) := by
  have e : taskB s = true ↔ (tk s).ok := taskB_ok s
  unfold Hm.Tk.ok tk at e
  simp only at e
  unfold horariumref09_Check.f
  by_cases h : taskB s = true
  · obtain ⟨h1, h2, h3, h4, h5, h6, h7, h8⟩ := e.1 h
    rw [h, if_pos (by omega), if_pos (by omega), if_pos (by omega), if_pos (by omega), if_pos (by omega), if_pos (by omega), if_pos (by omega), decide_eq_true h8]
  · have hf : taskB s = false := Bool.eq_false_iff.2 h
    rw [hf]
    repeat' split
    all_goals first | rfl | skip
    all_goals (congr 1; rw [decide_eq_false_iff_not]; intro h8; exact h (e.2 ⟨by omega, by omega, by omega, by omega, by omega, by omega, by omega, h8⟩))
theorem rrow_loop (suf : List S28) : ∀ (pre : List S28) (k : Nat), (∀ s ∈ suf, (tk s).ok) → ((pre ++ suf).length : Int) ≤ 16 → suf.length < k → horariumref09_Row.l0 k (pre ++ suf) (pre.length : Int) = some true := by
  induction suf with
  | nil =>
    intro pre k _ hlen hk
    obtain ⟨k, rfl⟩ := some_k hk
    simp only [horariumref09_Row.l0, List.append_nil] at hlen ⊢
    rw [if_neg (by omega), decide_eq_true hlen]
  | cons s suf ih =>
    intro pre k hok hlen hk
    obtain ⟨k, rfl⟩ := some_k (show 0 < k by omega)
    have i1 : ((pre ++ s :: suf).length : Int) = (pre.length : Int) + ((suf.length : Int) + 1) := by simp
    have i2 := ih (pre ++ [s]) k (fun x hx => hok x (by simp [hx])) (by simpa using hlen) (by simp at hk; omega)
    simp only [List.append_assoc, List.cons_append, List.nil_append] at i2
    rw [show ((pre ++ [s]).length : Int) = (pre.length : Int) + 1 from by simp] at i2
    simp only [horariumref09_Row.l0]
    rw [if_pos (by omega), if_pos (by omega), rd_mid, rcheck_is, (taskB_ok s).2 (hok s (by simp))]
    simp only [Option.bind_some, if_true]
    rw [w64 (by omega) (by omega)]
    exact i2
theorem rrow_yes {l : List S28} (k : Nat) (h : okL l) (hk : 16 < k) : horariumref09_Row.f k l = some true := by
  have hl := h.1
  have := rrow_loop l [] k h.2 (by simp; omega) (by omega)
  exact this
theorem rgcd_is : ∀ (k : Nat) (a b : Int), 0 ≤ a → 0 ≤ b → b ≤ 9223372036854775807 → a ≤ 9223372036854775807 → b.toNat < k → horariumref09_Gcd.f k a b = some ((Int.gcd a b : Nat) : Int) := by
  intro k
  induction k with
  | zero => intro a b _ _ _ _ h; omega
  | succ k ih =>
    intro a b ha hb hb2 ha2 hk
    unfold horariumref09_Gcd.f
    rw [if_neg (by omega), if_neg (by omega)]
    by_cases h : b = 0
    · subst h; rw [if_pos rfl, Int.gcd_zero_right]; congr 1; omega
    · rw [if_neg h]
      have e : (Int.tmod a b).natAbs = a.natAbs % b.natAbs := Int.natAbs_tmod a b
      have h1 := Int.tmod_nonneg b ha
      have h2 := Int.tmod_lt_of_pos a (show 0 < b by omega)
      rw [ih b (Int.tmod a b) hb h1 (by omega) (by omega) (by omega)]
      simp only [Option.bind_some]
      congr 2
      rw [Int.gcd_eq_natAbs_gcd_natAbs, Int.gcd_eq_natAbs_gcd_natAbs, e, Nat.gcd_comm a.natAbs b.natAbs, Nat.gcd_rec b.natAbs a.natAbs, Nat.gcd_comm]
theorem rper_loop (k0 : Nat) (hk0 : 2147483648 ≤ k0) (suf : List S28) : ∀ (pre : List S28) (k m : Nat), k0 + suf.length < k → (pre ++ suf).length ≤ 16 → 0 < m → m ≤ 1048576 → (∀ s ∈ suf, (tk s).ok) →
    Hm.perFrom m (suf.map fun s => s.f3.toNat) ≤ 1048576 → horariumref09_Period.l0 k (pre ++ suf) (m : Int) (pre.length : Int) = some (((Hm.perFrom m (suf.map fun s => s.f3.toNat) : Nat) : Int), 0) := by
  induction suf with
  | nil =>
    intro pre k m hk hlen h0 h1 _ _
    obtain ⟨k, rfl⟩ := some_k (show 0 < k by omega)
    simp only [horariumref09_Period.l0, List.append_nil, List.map_nil, Hm.perFrom]
    rw [if_neg (by omega)]
  | cons s suf ih =>
    intro pre k m hk hlen h0 h1 hok hp
    obtain ⟨k, rfl⟩ := some_k (show 0 < k by omega)
    obtain ⟨_, _, h2, h3, h4, h5, _, _⟩ := hok s (by simp)
    simp only [tk] at h2 h3 h4 h5
    obtain ⟨t, ht⟩ : ∃ t : Nat, s.f3 = (t : Int) := ⟨s.f3.toNat, by omega⟩
    have hg : Int.gcd (m : Int) (t : Int) = Nat.gcd m t := by simp [Int.gcd_eq_natAbs_gcd_natAbs]
    have hgp : 0 < Nat.gcd m t := Nat.gcd_pos_of_pos_left t h0
    have e3 : (s :: suf).map (fun s => s.f3.toNat) = t :: suf.map (fun s => s.f3.toNat) := by simp [ht]
    rw [e3] at hp ⊢
    rw [show Hm.perFrom m (t :: suf.map fun s => s.f3.toNat) = Hm.perFrom (Nat.lcm m t) (suf.map fun s => s.f3.toNat) from rfl] at hp ⊢
    have hlp : 0 < Nat.lcm m t := Nat.lcm_pos h0 (by omega)
    have hpos : 0 < Hm.perFrom (Nat.lcm m t) (suf.map fun s => s.f3.toNat) := Hm.perFrom_pos hlp (fun x hx => by
      obtain ⟨y, hy, rfl⟩ := List.mem_map.1 hx
      obtain ⟨_, _, g2, g3, g4, _⟩ := hok y (by simp [hy])
      simp only [tk] at g2 g3 g4
      omega)
    have hle : Nat.lcm m t ≤ 1048576 := Nat.le_trans (Nat.le_of_dvd hpos (Hm.perFrom_start (Nat.lcm m t) (suf.map fun s => s.f3.toNat))) hp
    have hlen' := hlen
    simp only [List.length_append, List.length_cons] at hlen' hk
    have i1 : ((pre ++ s :: suf).length : Int) = (pre.length : Int) + ((suf.length : Int) + 1) := by simp
    have i2 := ih (pre ++ [s]) k (Nat.lcm m t) (by omega) (by simp; omega) hlp hle (fun x hx => hok x (by simp [hx])) hp
    simp only [List.append_assoc, List.cons_append, List.nil_append] at i2
    rw [show ((pre ++ [s]).length : Int) = (pre.length : Int) + 1 from by simp] at i2
    have e1 : Int.tdiv (m : Int) ((Nat.gcd m t : Nat) : Int) = ((m / Nat.gcd m t : Nat) : Int) := by rw [Int.tdiv_eq_ediv_of_nonneg (by omega)]; exact (Int.natCast_ediv m (Nat.gcd m t)).symm
    have hq : m / Nat.gcd m t ≤ m := Nat.div_le_self _ _
    have e2 : ((m / Nat.gcd m t : Nat) : Int) * (t : Int) = ((Nat.lcm m t : Nat) : Int) := by
      rw [← Int.natCast_mul]; congr 1
      unfold Nat.lcm
      rw [Nat.mul_comm, ← Nat.mul_div_assoc t (Nat.gcd_dvd_left m t), Nat.mul_comm]
    simp only [horariumref09_Period.l0]
    rw [if_pos (by omega), if_pos (by omega), rd_mid, ht, rgcd_is k _ _ (by omega) (by omega) (by omega) (by omega) (by omega), hg]
    simp only [Option.bind_some]
    rw [if_neg (by omega), e1, w64 (n := ((m / Nat.gcd m t : Nat) : Int)) (by have := Int.natCast_nonneg (m / Nat.gcd m t); omega) (by have : ((m / Nat.gcd m t : Nat) : Int) ≤ (m : Int) := Int.ofNat_le.2 hq; omega), e2, w64 (n := ((Nat.lcm m t : Nat) : Int)) (by omega) (by omega), if_neg (by omega), w64 (by omega) (by omega)]
    exact i2
theorem rPeriod_ok {l : List S28} (k : Nat) (h : okL l) (hk : 2147483700 < k) (hp : Hm.per (l.map tk) ≤ 1048576) : horariumref09_Period.f k l = some ((Hm.per (l.map tk) : Int), 0) := by
  have e0 : Hm.per (l.map tk) = Hm.perFrom 1 (l.map fun s => s.f3.toNat) := by unfold Hm.per; rw [List.map_map]; rfl
  have hl := h.1
  have := rper_loop 2147483648 (by omega) l [] k 1 (by omega) (by simpa using hl) (by omega) (by omega) h.2 (by rw [← e0]; exact hp)
  unfold horariumref09_Period.f
  rw [rrow_yes k h (by omega)]; simp only [Option.bind_some, if_true]
  rw [e0]; exact this
theorem rload_loop {p : Int} (h0 : 0 < p) (h1 : p ≤ 1048576) (suf : List S28) : ∀ (pre : List S28) (k : Nat) (acc : Int), okL (pre ++ suf) → suf.length < k → 0 ≤ acc → acc ≤ (pre.length : Int) * 1048576 →
    horariumref09_Load.l0 k (pre ++ suf) p acc (pre.length : Int) = some (acc + Hm.loadN (suf.map tk) p, p, 0) := by
  induction suf with
  | nil =>
    intro pre k acc _ hk _ _
    obtain ⟨k, rfl⟩ := some_k hk
    simp only [horariumref09_Load.l0, List.append_nil, List.map_nil, Hm.loadN]
    rw [if_neg (by omega)]; simp
  | cons s suf ih =>
    intro pre k acc hok hk ha hb
    obtain ⟨k, rfl⟩ := some_k (show 0 < k by omega)
    have hs : (tk s).ok := hok.2 s (by simp)
    have hw := Hm.load_le hs (p := p) (by omega)
    have hlen := hok.1
    simp only [List.length_append, List.length_cons] at hlen hk
    have hc : (tk s).c = s.f1 := rfl
    have ht : (tk s).t = s.f3 := rfl
    rw [hc, ht] at hw
    obtain ⟨_, _, h2, h3, h4, h5, _, _⟩ := hs
    simp only [tk] at h2 h3 h4 h5
    have i1 : ((pre ++ s :: suf).length : Int) = (pre.length : Int) + ((suf.length : Int) + 1) := by simp
    have i2 := ih (pre ++ [s]) k (acc + s.f1 * (p / s.f3)) (by simpa using hok) (by omega) (by omega) (by simp only [List.length_append, List.length_singleton]; omega)
    simp only [List.append_assoc, List.cons_append, List.nil_append] at i2
    have i3 : ((pre ++ [s]).length : Int) = (pre.length : Int) + 1 := by simp
    rw [i3] at i2
    have hq := Int.ediv_nonneg (show 0 ≤ p by omega) (show 0 ≤ s.f3 by omega)
    have hq2 := Int.ediv_le_self s.f3 (show 0 ≤ p by omega)
    simp only [horariumref09_Load.l0]
    rw [if_pos (by omega), if_pos (by omega), rd_mid, if_neg (by omega), Int.tdiv_eq_ediv_of_nonneg (by omega), w64 (n := p / s.f3) (by omega) (by omega)]
    rw [w64 (n := s.f1 * (p / s.f3)) (by omega) (by omega), w64 (n := acc + s.f1 * (p / s.f3)) (by omega) (by omega), w64 (n := (pre.length : Int) + 1) (by omega) (by omega), i2]
    simp only [List.map_cons, Hm.loadN, hc, ht]
    congr 2; omega
theorem rLoad_ok {l : List S28} (k : Nat) (h : okL l) (hk : 2147483700 < k) (hp : Hm.per (l.map tk) ≤ 1048576) : horariumref09_Load.f k l = some (Hm.loadN (l.map tk) (Hm.per (l.map tk) : Int), (Hm.per (l.map tk) : Int), 0) := by
  unfold horariumref09_Load.f
  rw [rPeriod_ok k h hk hp]; simp only [Option.bind_some, if_true]
  have hpos := Hm.per_pos (okL_map h)
  have hl := h.1
  have := rload_loop (p := (Hm.per (l.map tk) : Int)) (by omega) (by omega) l [] k 0 (by simpa using h) (by omega) (by omega) (by simp)
  simpa using this

theorem and_7 (n : Int) : Go.bits .and .i64 n 7 = n % 8 := by
  have h127 : (BitVec.ofInt 64 7).toNat = 2 ^ 3 - 1 := by decide
  have key : (BitVec.ofInt 64 n &&& BitVec.ofInt 64 7).toNat = (n % ((2 ^ 64 : Nat) : Int)).toNat % 2 ^ 3 := by
    rw [BitVec.toNat_and, BitVec.toNat_ofInt, h127, Nat.and_two_pow_sub_one_eq_mod]
  show IntKind.i64.wrap ((BitVec.ofInt 64 n &&& BitVec.ofInt 64 7).toNat : Nat) = n % 8
  rw [key, IntKind.wrap_i64]
  omega

/-- Tasks by numbers. -/
def MadeP (r : List S28) : Prop := ∀ i (h : i < r.length), (r[i]).f0 = (i : Int) ∧ 1 ≤ (r[i]).f1 ∧ (r[i]).f1 ≤ (r[i]).f2 ∧ (r[i]).f2 ≤ (r[i]).f3 ∧ 2 ≤ (r[i]).f3 ∧ (r[i]).f3 ≤ 12 ∧ (r[i]).f3 ∣ 120 ∧ 1 ≤ (r[i]).f4 ∧ (r[i]).f4 ≤ 15
theorem mod_rng (a : Int) {m : Int} (h : 1 ≤ m) (hm : m ≤ 24) : 1 ≤ wrap64 (1 + Int.tmod (wrap64 (Int.tmod a m + m)) m) ∧ wrap64 (1 + Int.tmod (wrap64 (Int.tmod a m + m)) m) ≤ m := by
  have h1 : -m < Int.tmod a m ∧ Int.tmod a m < m := by
    rcases Int.le_total 0 a with ha | ha
    · have h2 := Int.tmod_lt_of_pos a (show 0 < m by omega); have h3 := Int.tmod_nonneg m ha; omega
    · have h2 := Int.tmod_lt_of_pos (-a) (show 0 < m by omega); have h3 := Int.tmod_nonneg m (show 0 ≤ -a by omega)
      rw [Int.neg_tmod] at h2 h3; omega
  rw [w64 (n := Int.tmod a m + m) (by omega) (by omega)]
  have h4 := Int.tmod_lt_of_pos (Int.tmod a m + m) (show 0 < m by omega); have h5 := Int.tmod_nonneg m (show 0 ≤ Int.tmod a m + m by omega)
  rw [w64 (by omega) (by omega)]; omega
theorem per_rng (j : Int) (h0 : 0 ≤ j) (h1 : j < 8) : 2 ≤ rd [2, 3, 4, 5, 6, 8, 10, 12] j ∧ rd [2, 3, 4, 5, 6, 8, 10, 12] j ≤ 12 ∧ rd [2, 3, 4, 5, 6, 8, 10, 12] j ∣ 120 := by
  have : j = 0 ∨ j = 1 ∨ j = 2 ∨ j = 3 ∨ j = 4 ∨ j = 5 ∨ j = 6 ∨ j = 7 := by omega
  rcases this with rfl | rfl | rfl | rfl | rfl | rfl | rfl | rfl <;> decide
theorem made_loop (l : List S31) (d : Nat) : ∀ (k i : Nat) (r : List S28), i + d = min l.length 8 → d < k → r.length = i → MadeP r →
    ∃ r', horariumlaw11_made.l0 k l r (i : Int) 2 3 4 5 6 8 10 12 = some r' ∧ r'.length = min l.length 8 ∧ MadeP r' := by
  induction d with
  | zero =>
    intro k i r hd hk hr hm
    obtain ⟨k, rfl⟩ := some_k hk
    refine ⟨r, ?_, by omega, hm⟩
    simp only [horariumlaw11_made.l0]
    by_cases h : (i : Int) < (l.length : Int)
    · rw [if_pos h, if_neg (by omega)]
    · rw [if_neg h]
  | succ d ih =>
    intro k i r hd hk hr hm
    obtain ⟨k, rfl⟩ := some_k (show 0 < k by omega)
    simp only [horariumlaw11_made.l0]
    rw [and_7, if_pos (by omega), if_pos (by omega), if_pos (by omega), if_pos (by omega), if_pos (by omega)]
    have hT := per_rng ((rd_T31 l (i : Int)).f2 % 8) (by omega) (by omega)
    generalize rd [2, 3, 4, 5, 6, 8, 10, 12] ((rd_T31 l (i : Int)).f2 % 8) = T at hT ⊢
    rw [if_neg (by omega)]
    have hD := mod_rng (rd_T31 l (i : Int)).f1 (m := T) (by omega) (by omega)
    generalize wrap64 (1 + Int.tmod (wrap64 (Int.tmod (rd_T31 l (i : Int)).f1 T + T)) T) = D at hD ⊢
    rw [if_neg (by omega), if_pos (by omega)]
    have hC := mod_rng (rd_T31 l (i : Int)).f0 (m := D) (by omega) (by omega)
    generalize wrap64 (1 + Int.tmod (wrap64 (Int.tmod (rd_T31 l (i : Int)).f0 D + D)) D) = C at hC ⊢
    rw [w64 (n := (i : Int) + 1) (by omega) (by omega)]
    have e : ((i : Int) + 1) = ((i + 1 : Nat) : Int) := by omega
    rw [e]
    refine ih k (i + 1) _ (by omega) (by omega) (by simp [hr]) ?_
    intro j hj
    by_cases h : j < r.length
    · rw [List.getElem_append_left h]; exact hm j h
    · have hj2 : j = r.length := by simp at hj; omega
      subst hj2
      rw [List.getElem_append_right (by omega)]
      simp only [Nat.sub_self, List.getElem_cons_zero]
      refine ⟨by omega, by omega, by omega, by omega, by omega, by omega, hT.2.2, ?_, ?_⟩ <;> omega
theorem made_is (l : List S31) (k : Nat) (hk : 8 < k) : ∃ r, horariumlaw11_made.f k l = some r ∧ r.length = min l.length 8 ∧ MadeP r := by
  unfold horariumlaw11_made.f
  exact made_loop l (min l.length 8) k 0 [] (by omega) (by omega) rfl (fun i h => by simp at h)
theorem MadeP.okL {r : List S28} (h : MadeP r) (hl : r.length ≤ 16) : okL r := by
  refine ⟨hl, fun s hs => ?_⟩
  obtain ⟨i, hi, rfl⟩ := List.getElem_of_mem hs
  have := h i hi
  unfold Hm.Tk.ok tk
  simp only
  omega
theorem rd_at {r : List S28} {i : Nat} (hi : i < r.length) : rd_T28 r (i : Int) = r[i] := by
  simp [rd_T28, hi]

theorem awake_is : ∀ k, 60 ≤ k → horariumlaw11_awake.f k = some true := by
  have h : horariumlaw11_awake.f 60 = some true := by decide +kernel
  intro k hk
  exact at_rounds (horariumlaw11_awake.mono) hk h

theorem made_120 {t : List S28} (hm : MadeP t) (hl : t.length ≤ 16) : Ok120 t := ⟨hm.okL hl, fun s hs => by
  obtain ⟨i, hi, rfl⟩ := List.getElem_of_mem hs
  exact (hm i hi).2.2.2.2.2.2.1⟩
theorem more_mid (k : Nat) (hk : 2147483700 < k) (t : List S28) (ht : Ok120 t) (h7 : t.length ≤ 7) (a b c : Int) : horariumlaw11_BusyMore.j0 (k + 2) true t a b c = some true := by
  obtain ⟨r, hr, hl, hm⟩ := made_is [⟨a, b, c⟩] (k + 1) (by omega)
  have hl1 : r.length = 1 := by simpa using hl
  obtain ⟨x, rfl⟩ : ∃ x, r = [x] := by
    match r, hl1 with
    | [x], _ => exact ⟨x, rfl⟩
  have hx := made_120 hm (by simp)
  have hx0 : (tk x).ok := hx.1.2 x (by simp)
  obtain ⟨_, _, g2, g3, g4, g5, _, _⟩ := id hx0
  simp only [tk] at g2 g3 g4 g5
  have htx : Ok120 (t ++ [x]) := ⟨⟨by simp; omega, fun s hs => by
    rcases List.mem_append.1 hs with h | h
    · exact ht.1.2 s h
    · exact hx.1.2 s h⟩, fun s hs => by
    rcases List.mem_append.1 hs with h | h
    · exact ht.2 s h
    · exact hx.2 s h⟩
  have hfit : fits (t ++ [x]) → fits t := fun h => by
    unfold fits at h ⊢
    rw [List.map_append, Hm.loadN_append] at h
    have := Hm.loadN_le (okL_map hx.1) (p := 120) (by omega)
    omega
  have hfx := hx.fits
  obtain ⟨n, e, en, hn⟩ := Length_120 (k + 1) ht (by omega)
  obtain ⟨m, f, em, hmm⟩ := Length_120 (k + 1) htx (by omega)
  obtain ⟨q, g, eq, hq⟩ := Length_120 (k + 1) hx (by omega)
  have ep := hx.per
  have e0 : rd_T28 [x] 0 = x := rfl
  have last : horariumlaw11_BusyMore.j1 (k + 1) true n e m f false = some true := by
    simp only [horariumlaw11_BusyMore.j1, if_true]
    rw [if_neg (by simp)]
    rcases hn with ⟨rfl, hf1, hn0, hn1, hnw, hnp, hny⟩ | ⟨rfl, rfl, hf1⟩
    · rw [if_pos rfl]
      rcases hmm with ⟨rfl, hf2, hm0, hm1, hmw, hmp, hmy⟩ | ⟨rfl, rfl, hf2⟩
      · rw [if_pos rfl, if_pos]
        have h1 := hmp (by simp)
        by_cases h : m < n
        · have h2 := hny m h1 h
          rw [List.map_append, Hm.work_append] at hmw
          have h3 := Hm.work_nonneg (okL_map hx.1) hm0
          omega
        · omega
      · rw [if_neg (by omega)]
    · rw [if_neg (by omega)]
      rcases hmm with ⟨rfl, hf2, _⟩ | ⟨rfl, rfl, hf2⟩
      · exact absurd (hfit hf2) hf1
      · rfl
  simp only [horariumlaw11_BusyMore.j0]
  rw [hr]
  simp only [Option.bind_some, List.nil_append]
  rw [en]
  simp only [Option.bind_some]
  rw [if_pos (by simp; omega), if_pos (by simp; omega), em, eq]
  simp only [Option.bind_some]
  rw [rLoad_ok (k + 1) hx.1 (by omega) (by omega)]
  simp only [Option.bind_some]
  by_cases hN : Hm.loadN ([x].map tk) (Hm.per ([x].map tk) : Int) < (Hm.per ([x].map tk) : Int)
  · rw [if_pos hN]
    rcases hq with ⟨rfl, hf2, hq0, hq1, hqw, hqp, hqy⟩ | ⟨rfl, rfl, hf2⟩
    · rw [if_pos rfl, if_pos (by simp), e0]
      have hc : q = x.f1 := by
        have h1 := hqp (by simp)
        have w1 : ∀ y, Hm.work ([x].map tk) y = x.f1 * Hm.jobs (tk x) y := fun y => by simp [Hm.work, tk]
        have hj : Hm.jobs (tk x) x.f1 = 1 := by unfold Hm.jobs; simp only [tk]; exact Hm.quo_eq (by omega) (by omega) (by omega)
        have hj1 := Hm.jobs_mono (t := tk x) (show (0 : Int) < (tk x).t by simp only [tk]; omega) h1
        have hj2 : Hm.jobs (tk x) 1 = 1 := by unfold Hm.jobs; simp only [tk]; exact Hm.quo_eq (by omega) (by omega) (by omega)
        rw [w1] at hqw
        have h3 := Hm.mul_le (a := x.f1) (by omega) (show 1 ≤ Hm.jobs (tk x) q by omega)
        by_cases h : x.f1 < q
        · have := hqy x.f1 (by omega) h
          rw [w1, hj] at this; omega
        · omega
      rw [show (q != x.f1) = false by simp [hc]]
      exact last
    · exact absurd (hfx.2 (by omega)) hf2
  · rw [if_neg hN]
    exact last
theorem BusyMore : horariumlaw11_BusyMore.Pure := by
  intro l a b c _ _ _ _ _
  obtain ⟨t, hr, hl, hm⟩ := made_is l 3000000002 (by omega)
  have ht := made_120 hm (by omega)
  refine ⟨3000000002, ?_⟩
  generalize hK : (3000000000 : Nat) = K
  rw [show 3000000002 = K + 2 by omega] at hr ⊢
  unfold horariumlaw11_BusyMore.f
  rw [awake_is (K + 2) (by omega), hr]
  simp only [Option.bind_some]
  by_cases h7 : (t.length : Int) > 7
  · rw [if_pos h7, if_pos (by omega)]
    exact more_mid K (by omega) _ ⟨⟨by simp; omega, fun s hs => ht.1.2 s (List.mem_of_mem_take hs)⟩, fun s hs => ht.2 s (List.mem_of_mem_take hs)⟩ (by simp; omega) a b c
  · rw [if_neg h7]
    exact more_mid K (by omega) t ht (by omega) a b c
end Go.Proofs.Ythiepacmdlgajaa.Pure
