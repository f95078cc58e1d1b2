/- QpaLess, the plain part: what fits fits with less. -/
import Derived.Test.YthiepacmdlgajaaPQpaLessx7
import Derived.Test.YthiepacmdlgajaaMRangeX
import Derived.Test.YthiepacmdlgajaaMDem
import Derived.Test.YthiepacmdlgajaaMWork
import Derived.Test.YthiepacmdlgajaaMDead
import Derived.Test.YthiepacmdlgajaaMLcm
import Derived.Test.YthiepacmdlgajaaMBusy
import Derived.Test.YthiepacmdlgajaaMDead2
import Derived.Test.YthiepacmdlgajaaMQpa

namespace Go.Proofs.Ythiepacmdlgajaa.Pure
open Go.RowKit Go.Proofs.Ythiepacmdlgajaa.PQpaLess Go.Proofs.YthiepacmdlgajaaW.PrintWords Go.Proofs.YthiepacmdlgajaaW.PrintLast Go.Proofs.YthiepacmdlgajaaW.PrintMore
set_option linter.unusedVariables false
set_option linter.unusedSimpArgs false

theorem gcd_loop (k : Nat) : ∀ a b : Int, -9223372036854775807 ≤ a → a ≤ 9223372036854775807 → -9223372036854775807 ≤ b → b ≤ 9223372036854775807 → b.natAbs < k → param_Gcd.l0 k a b = some ((Int.gcd a b : Nat) : Int) := by
  induction k with
  | zero => intro a b _ _ _ _ h; omega
  | succ k ih =>
    intro a b ha1 ha2 hb1 hb2 hk
    simp only [param_Gcd.l0]
    by_cases h : b = 0
    · subst h
      rw [if_pos rfl, Int.gcd_zero_right, w64 (by omega) (by omega)]
      unfold mx
      congr 1
      split <;> omega
    · rw [if_neg h]
      have e : (Int.tmod a b).natAbs = a.natAbs % b.natAbs := Int.natAbs_tmod a b
      have hl : a.natAbs % b.natAbs < b.natAbs := Nat.mod_lt _ (by omega)
      rw [ih b (Int.tmod a b) hb1 hb2 (by omega) (by omega) (by omega)]
      congr 2
      rw [Int.gcd_eq_natAbs_gcd_natAbs, Int.gcd_eq_natAbs_gcd_natAbs, e, Nat.gcd_comm a.natAbs b.natAbs, Nat.gcd_rec b.natAbs a.natAbs, Nat.gcd_comm]
theorem Gcd_is (k : Nat) {a b : Int} (ha1 : -9223372036854775807 ≤ a) (ha2 : a ≤ 9223372036854775807) (hb1 : -9223372036854775807 ≤ b) (hb2 : b ≤ 9223372036854775807) (hk : b.natAbs < k) : param_Gcd.f k a b = some ((Int.gcd a b : Nat) : Int) :=
  gcd_loop k a b ha1 ha2 hb1 hb2 hk

theorem per_go (k : Nat) (hk : 2147483648 < k) (l : List S28) : ∀ (m : Nat), 0 < m → m ≤ 1048576 → (∀ s ∈ l, (tk s).ok) →
    period.go k l (m : Int) = some (if Hm.perFrom m (l.map fun s => s.f3.toNat) ≤ 1048576 then ((Hm.perFrom m (l.map fun s => s.f3.toNat) : Nat) : Int) else 0, if Hm.perFrom m (l.map fun s => s.f3.toNat) ≤ 1048576 then 0 else 16) := by
  induction l with
  | nil => intro m h0 h1 _; simp [period.go, Hm.perFrom, h1]
  | cons s l ih =>
    intro m h0 h1 hok
    obtain ⟨_, _, h2, h3, h4, h5, _, _⟩ := hok s (by simp)
    simp only [tk] at h2 h3 h4 h5
    obtain ⟨t, ht⟩ : ∃ t : Nat, s.f3 = (t : Int) := ⟨s.f3.toNat, by omega⟩
    unfold period.go
    rw [ht, Gcd_is k (by omega) (by omega) (by omega) (by omega) (by omega)]
    simp only [Option.bind_some]
    have hg : Int.gcd (m : Int) (t : Int) = Nat.gcd m t := by simp [Int.gcd_eq_natAbs_gcd_natAbs]
    rw [hg]
    have hgp : 0 < Nat.gcd m t := Nat.gcd_pos_of_pos_left t h0
    rw [if_neg (by omega)]
    have e1 : Int.tdiv (t : Int) ((Nat.gcd m t : Nat) : Int) = ((t / Nat.gcd m t : Nat) : Int) := by rw [Int.tdiv_eq_ediv_of_nonneg (by omega)]; exact (Int.natCast_ediv t (Nat.gcd m t)).symm
    have hq : t / Nat.gcd m t ≤ t := Nat.div_le_self _ _
    rw [e1, w64 (n := ((t / Nat.gcd m t : Nat) : Int)) (by have := Int.natCast_nonneg (t / Nat.gcd m t); omega) (by have : ((t / Nat.gcd m t : Nat) : Int) ≤ (t : Int) := Int.ofNat_le.2 hq; omega)]
    have e2 : (m : Int) * ((t / Nat.gcd m t : Nat) : Int) = ((Nat.lcm m t : Nat) : Int) := by rw [← Hm.mul_quo_gcd (m := m) (t := t) (by omega)]; simp
    have hlcm : Nat.lcm m t ≤ 1048576 * 2147483648 := by
      rw [← Hm.mul_quo_gcd (m := m) (t := t) (by omega)]
      exact Nat.mul_le_mul h1 (by omega)
    rw [e2, w64 (by omega) (by omega)]
    have e3 : (s :: l).map (fun s => s.f3.toNat) = t :: l.map (fun s => s.f3.toNat) := by simp [ht]
    rw [e3]
    rw [show Hm.perFrom m (t :: l.map fun s => s.f3.toNat) = Hm.perFrom (Nat.lcm m t) (l.map fun s => s.f3.toNat) from rfl]
    have hlp : 0 < Nat.lcm m t := Nat.lcm_pos h0 (by omega)
    by_cases hle : Nat.lcm m t ≤ 1048576
    · rw [if_pos (by omega)]
      exact ih (Nat.lcm m t) hlp hle (fun x hx => hok x (by simp [hx]))
    · have hbig : ¬ Hm.perFrom (Nat.lcm m t) (l.map fun s => s.f3.toNat) ≤ 1048576 := by
        have hpos : 0 < Hm.perFrom (Nat.lcm m t) (l.map fun s => s.f3.toNat) := Hm.perFrom_pos hlp (fun x hx => by
          obtain ⟨y, hy, rfl⟩ := List.mem_map.1 hx
          obtain ⟨_, _, g2, g3, g4, _⟩ := hok y (by simp [hy])
          simp only [tk] at g2 g3 g4
          omega)
        have := Nat.le_of_dvd hpos (Hm.perFrom_start (Nat.lcm m t) (l.map fun s => s.f3.toNat))
        omega
      rw [if_neg (by omega), if_neg hbig, if_neg hbig]
theorem per_map (l : List S28) : Hm.per (l.map tk) = Hm.perFrom 1 (l.map fun s => s.f3.toNat) := by
  unfold Hm.per; rw [List.map_map]; rfl
theorem Period_ok {l : List S28} (k : Nat) (h : okL l) (hk : 2147483648 < k) (hp : Hm.per (l.map tk) ≤ 1048576) : param_Period.f k l = some ((Hm.per (l.map tk) : Int), 0) := by
  unfold param_Period.f
  rw [row_yes h]; simp only [Option.bind_some, if_true]
  have e := per_go k hk l 1 (by omega) (by omega) h.2
  rw [← per_map] at e
  rw [if_pos hp, if_pos hp] at e
  exact e
theorem Period_over {l : List S28} (k : Nat) (h : okL l) (hk : 2147483648 < k) (hp : ¬ Hm.per (l.map tk) ≤ 1048576) : param_Period.f k l = some (0, 16) := by
  unfold param_Period.f
  rw [row_yes h]; simp only [Option.bind_some, if_true]
  have e := per_go k hk l 1 (by omega) (by omega) h.2
  rw [← per_map] at e
  rw [if_neg hp, if_neg hp] at e
  exact e
theorem Period_arg {l : List S28} (k : Nat) (h : ¬ okL l) : param_Period.f k l = some (0, 1) := by
  unfold param_Period.f
  rw [row_no h]; rfl

theorem load_loop {p : Int} (h0 : 0 < p) (h1 : p ≤ 1048576) (suf : List S28) : ∀ (pre : List S28) (k : Nat) (acc : Int), okL (pre ++ suf) → suf.length < k → 0 ≤ acc → acc ≤ (pre.length : Int) * 1048576 →
    param_Load.l0 k p acc (pre ++ suf) ((pre ++ suf).length : Int) (pre.length : Int) = some (acc + Hm.loadN (suf.map tk) p, p, 0) := by
  induction suf with
  | nil =>
    intro pre k acc _ hk _ _
    obtain ⟨k, rfl⟩ := some_k hk
    simp only [param_Load.l0, List.append_nil, List.map_nil, Hm.loadN]
    rw [if_neg (by omega)]; simp
  | cons s suf ih =>
    intro pre k acc hok hk ha hb
    obtain ⟨k, rfl⟩ := some_k (show 0 < k by omega)
    have hs : (tk s).ok := hok.2 s (by simp)
    have hw := Hm.load_le hs (p := p) (by omega)
    have hlen := hok.1
    simp only [List.length_append, List.length_cons] at hlen hk
    have hc : (tk s).c = s.f1 := rfl
    have ht : (tk s).t = s.f3 := rfl
    rw [hc, ht] at hw
    obtain ⟨_, _, h2, h3, h4, h5, _, _⟩ := hs
    simp only [tk] at h2 h3 h4 h5
    have i1 : ((pre ++ s :: suf).length : Int) = (pre.length : Int) + ((suf.length : Int) + 1) := by simp
    have i2 := ih (pre ++ [s]) k (acc + s.f1 * (p / s.f3)) (by simpa using hok) (by omega) (by omega) (by simp only [List.length_append, List.length_singleton]; omega)
    simp only [List.append_assoc, List.cons_append, List.nil_append] at i2
    have i3 : ((pre ++ [s]).length : Int) = (pre.length : Int) + 1 := by simp
    rw [i3] at i2
    have hq := Int.ediv_nonneg (show 0 ≤ p by omega) (show 0 ≤ s.f3 by omega)
    have hq2 := Int.ediv_le_self s.f3 (show 0 ≤ p by omega)
    simp only [param_Load.l0]
    rw [if_pos (by omega), if_pos (by omega), if_pos (by omega), rd_mid, if_neg (by omega), Int.tdiv_eq_ediv_of_nonneg (by omega), w64 (n := p / s.f3) (by omega) (by omega)]
    rw [w64 (n := s.f1 * (p / s.f3)) (by omega) (by omega), w64 (n := acc + s.f1 * (p / s.f3)) (by omega) (by omega), w64 (n := (pre.length : Int) + 1) (by omega) (by omega), i2]
    simp only [List.map_cons, Hm.loadN, hc, ht]
    congr 2; omega
theorem Load_ok {l : List S28} (k : Nat) (h : okL l) (hk : 2147483648 < k) (hp : Hm.per (l.map tk) ≤ 1048576) : param_Load.f k l = some (Hm.loadN (l.map tk) (Hm.per (l.map tk) : Int), (Hm.per (l.map tk) : Int), 0) := by
  unfold param_Load.f
  rw [Period_ok k h hk hp]; simp only [Option.bind_some]
  have hpos := Hm.per_pos (okL_map h)
  have hl := h.1
  have := load_loop (p := (Hm.per (l.map tk) : Int)) (by omega) (by omega) l [] k 0 (by simpa using h) (by omega) (by omega) (by simp)
  simpa using this
theorem Load_over {l : List S28} (k : Nat) (h : okL l) (hk : 2147483648 < k) (hp : ¬ Hm.per (l.map tk) ≤ 1048576) : param_Load.f k l = some (0, 0, 16) := by
  unfold param_Load.f
  rw [Period_over k h hk hp]; rfl
theorem Load_arg {l : List S28} (k : Nat) (h : ¬ okL l) : param_Load.f k l = some (0, 0, 1) := by
  unfold param_Load.f
  rw [Period_arg k h]; rfl

theorem Over_ok {l : List S28} (k : Nat) (h : okL l) (hk : 2147483648 < k) (hp : Hm.per (l.map tk) ≤ 1048576) : param_Over.f k l = some (decide (Hm.loadN (l.map tk) (Hm.per (l.map tk) : Int) > (Hm.per (l.map tk) : Int)), 0) := by
  unfold param_Over.f; rw [Load_ok k h hk hp]; rfl
theorem right_fits {l : List S28} (k : Nat) (h : okL l) (hk : 2147483648 < k) (hp : Hm.per (l.map tk) ≤ 1048576) (hf : Hm.loadN (l.map tk) (Hm.per (l.map tk) : Int) ≤ (Hm.per (l.map tk) : Int)) : busy_right.f k l = some 0 := by
  unfold busy_right.f; rw [Over_ok k h hk hp]; simp only [Option.bind_some, if_true]
  rw [if_neg (by simp; omega)]
theorem right_over {l : List S28} (k : Nat) (h : okL l) (hk : 2147483648 < k) (hp : Hm.per (l.map tk) ≤ 1048576) (hf : Hm.loadN (l.map tk) (Hm.per (l.map tk) : Int) > (Hm.per (l.map tk) : Int)) : busy_right.f k l = some 17 := by
  unfold busy_right.f; rw [Over_ok k h hk hp]; simp only [Option.bind_some, if_true]
  rw [if_pos (by simp; omega)]
theorem right_long {l : List S28} (k : Nat) (h : okL l) (hk : 2147483648 < k) (hp : ¬ Hm.per (l.map tk) ≤ 1048576) : busy_right.f k l = some 16 := by
  unfold busy_right.f param_Over.f; rw [Load_over k h hk hp]; rfl
theorem right_arg {l : List S28} (k : Nat) (h : ¬ okL l) : busy_right.f k l = some 1 := by
  unfold busy_right.f param_Over.f; rw [Load_arg k h]; rfl
theorem lastV_cons {x : Int} {xs : List Int} (h : xs ≠ []) : lastV (x :: xs) = lastV xs := by
  unfold lastV; cases xs with
  | nil => exact absurd rfl h
  | cons y ys => rfl
theorem sumF_is {l : List S28} (h : okL l) : sumF l = Hm.sumC (l.map tk) := by
  have key : ∀ (pre suf : List S28), l = pre ++ suf → sumF pre = Hm.sumC (pre.map tk) := by
    intro pre
    generalize hn : pre.length = n
    induction n generalizing pre with
    | zero => intro suf _; have : pre = [] := List.length_eq_zero_iff.1 hn; subst this; rfl
    | succ n ih =>
      intro suf e
      obtain ⟨p, s, rfl⟩ : ∃ p s, pre = p ++ [s] := ⟨pre.dropLast, pre.getLast (by intro h; simp [h] at hn), (List.dropLast_concat_getLast _).symm⟩
      have h1 := ih p (by simpa using hn) (s :: suf) (by simpa using e)
      have h2 : ∀ t ∈ (p ++ [s]).map tk, t.ok := fun t ht => by
        obtain ⟨y, hy, rfl⟩ := List.mem_map.1 ht; exact h.2 y (by rw [e]; exact List.mem_append_left _ hy)
      have h3 := Hm.sumC_le h2
      have hlen := h.1
      rw [e] at hlen
      simp only [List.length_append, List.length_map, List.length_cons, List.length_nil] at hlen h3
      have e2 : Hm.sumC ((p ++ [s]).map tk) = Hm.sumC (p.map tk) + s.f1 := by rw [List.map_append, Hm.sumC_append]; simp [Hm.sumC, tk]
      rw [sumF_snoc, h1, e2, w64 (by omega) (by omega)]
  exact key l [] (by simp)
theorem steps_fix {l : List S28} (hok : okL l) {P : Int} (hP1 : P ≤ 1099511627776) (hP : Hm.work (l.map tk) P ≤ P) : ∀ (k : Nat) (x : Int), (P - x).toNat < k → 0 ≤ x → x ≤ P → x ≤ Hm.work (l.map tk) x →
    ∃ xs, stepsL l k x = some xs ∧ xs ≠ [] ∧ Hm.work (l.map tk) (lastV xs) = lastV xs ∧ x ≤ lastV xs ∧ lastV xs ≤ P ∧ ∀ y, x ≤ y → y < lastV xs → y < Hm.work (l.map tk) y := by
  intro k
  induction k with
  | zero => intro x h; omega
  | succ k ih =>
    intro x hk h0 h1 h2
    have hv := workV_yes hok h0 (show x ≤ 1099511627776 by omega)
    have hm := Hm.work_mono (okL_map hok) h1
    unfold stepsL
    rw [hv]
    by_cases he : Hm.work (l.map tk) x = x
    · rw [if_pos he]
      exact ⟨[x], rfl, by simp, he, Int.le_refl _, h1, fun y hy1 hy2 => by have e : lastV [x] = x := rfl; omega⟩
    · rw [if_neg he]
      obtain ⟨xs, e1, e2, e3, e4, e5, e6⟩ := ih (Hm.work (l.map tk) x) (by omega) (by omega) (by omega) (Hm.work_mono (okL_map hok) h2)
      rw [e1]
      refine ⟨x :: xs, rfl, by simp, ?_⟩
      rw [lastV_cons e2]
      refine ⟨e3, by omega, e5, fun y hy1 hy2 => ?_⟩
      by_cases hy : Hm.work (l.map tk) x ≤ y
      · exact e6 y hy hy2
      · have := Hm.work_mono (okL_map hok) hy1; omega
/-- The length, where tasks fit. -/
theorem Length_fits {l : List S28} (k : Nat) (h : okL l) (hk : 2147483648 < k) (hl : l ≠ []) (hp : Hm.per (l.map tk) ≤ 1048576) (hf : Hm.loadN (l.map tk) (Hm.per (l.map tk) : Int) ≤ (Hm.per (l.map tk) : Int)) :
    ∃ n, busy_Length.f k l = some (n, 0) ∧ Hm.work (l.map tk) n = n ∧ 1 ≤ n ∧ n ≤ (Hm.per (l.map tk) : Int) ∧ ∀ y, 1 ≤ y → y < n → y < Hm.work (l.map tk) y := by
  have hpos := Hm.per_pos (okL_map h)
  have hlen := List.length_pos_iff.2 hl
  have hS := Hm.sumC_le (okL_map h)
  rw [List.length_map] at hS
  have h16 := h.1
  have hW := Hm.work_load (okL_map h) (p := (Hm.per (l.map tk) : Int)) (fun t ht => Hm.per_dvd (okL_map h) ht)
  have h1 := Hm.work_one (okL_map h)
  have hm1 := Hm.work_mono (okL_map h) (show (1 : Int) ≤ (Hm.per (l.map tk) : Int) by omega)
  have hm2 := Hm.work_mono (okL_map h) (show (1 : Int) ≤ Hm.sumC (l.map tk) by omega)
  obtain ⟨xs, e1, e2, e3, e4, e5, e6⟩ := steps_fix h (P := (Hm.per (l.map tk) : Int)) (by omega) (by omega) k (Hm.sumC (l.map tk)) (by omega) (by omega) (by omega) (by omega)
  refine ⟨lastV xs, ?_, e3, by omega, e5, fun y hy1 hy2 => ?_⟩
  · unfold busy_Length.f
    rw [right_fits k h hk hp hf]; simp only [Option.bind_some, if_true]
    rw [if_neg hl, sumF_is h, e1]; rfl
  · by_cases hy : Hm.sumC (l.map tk) ≤ y
    · exact e6 y hy hy2
    · have := Hm.work_mono (okL_map h) hy1; omega
theorem Length_none (k : Nat) (hk : 2147483648 < k) : busy_Length.f k [] = some (0, 0) := by
  have h : okL [] := ⟨by simp, by simp⟩
  unfold busy_Length.f
  rw [right_fits k h hk (by simp [Hm.per, Hm.perFrom]) (by simp [Hm.per, Hm.perFrom, Hm.loadN])]; rfl
theorem Length_over {l : List S28} (k : Nat) (h : okL l) (hk : 2147483648 < k) (hp : Hm.per (l.map tk) ≤ 1048576) (hf : Hm.loadN (l.map tk) (Hm.per (l.map tk) : Int) > (Hm.per (l.map tk) : Int)) : busy_Length.f k l = some (0, 17) := by
  unfold busy_Length.f
  rw [right_over k h hk hp hf]; rfl

/-- Rows of tasks whose periods divide 120. -/
def Ok120 (l : List S28) : Prop := okL l ∧ ∀ s ∈ l, s.f3 ∣ 120
def fits (l : List S28) : Prop := Hm.loadN (l.map tk) 120 ≤ 120
theorem Ok120.dvd {l : List S28} (h : Ok120 l) : ∀ t ∈ l.map tk, t.t ∣ 120 := fun t ht => by
  obtain ⟨y, hy, rfl⟩ := List.mem_map.1 ht; exact h.2 y hy
theorem Ok120.per {l : List S28} (h : Ok120 l) : Hm.per (l.map tk) ≤ 120 := Nat.le_of_dvd (by omega) (Hm.per_least (okL_map h.1) h.dvd)
theorem Ok120.fits {l : List S28} (h : Ok120 l) : fits l ↔ Hm.loadN (l.map tk) (Hm.per (l.map tk) : Int) ≤ (Hm.per (l.map tk) : Int) := Hm.fits_at (okL_map h.1) (by omega) h.dvd
theorem Length_120 {l : List S28} (k : Nat) (h : Ok120 l) (hk : 2147483648 < k) : ∃ n e, busy_Length.f k l = some (n, e) ∧ (e = 0 ∧ fits l ∧ 0 ≤ n ∧ n ≤ 120 ∧ Hm.work (l.map tk) n = n ∧ (l ≠ [] → 1 ≤ n) ∧ (∀ y, 1 ≤ y → y < n → y < Hm.work (l.map tk) y) ∨ e = 17 ∧ n = 0 ∧ ¬ fits l) := by
  have hp := h.per
  by_cases hf : fits l
  · by_cases hl : l = []
    · subst hl
      exact ⟨0, 0, Length_none k hk, Or.inl ⟨rfl, hf, by omega, by omega, rfl, fun h => absurd rfl h, fun y h1 h2 => by omega⟩⟩
    · obtain ⟨n, e1, e2, e3, e4, e5⟩ := Length_fits k h.1 hk hl (by omega) (h.fits.1 hf)
      exact ⟨n, 0, e1, Or.inl ⟨rfl, hf, by omega, by omega, e2, fun _ => e3, e5⟩⟩
  · exact ⟨0, 17, Length_over k h.1 hk (by omega) (Int.not_le.1 (fun h' => hf (h.fits.2 h'))), Or.inr ⟨rfl, rfl, hf⟩⟩

theorem Length_long {l : List S28} (k : Nat) (h : okL l) (hk : 2147483648 < k) (hp : ¬ Hm.per (l.map tk) ≤ 1048576) : busy_Length.f k l = some (0, 16) := by
  unfold busy_Length.f
  rw [right_long k h hk hp]; rfl
theorem Length_arg {l : List S28} (k : Nat) (h : ¬ okL l) : busy_Length.f k l = some (0, 1) := by
  unfold busy_Length.f
  rw [right_arg k h]; rfl

theorem beforeV_yes {l : List S28} {x : Int} (hok : okL l) (h0 : 0 ≤ x) (h1 : x ≤ 1099511627776) : beforeV l x = (Hm.before (l.map tk) x, decide (Hm.before (l.map tk) x > 0)) := by
  unfold beforeV; rw [if_pos (mayB_ok.2 ⟨hok, h0, h1⟩)]
theorem ofV_ok {l : List S28} {y : Int} (hok : okL l) (h0 : 0 ≤ y) (h1 : y ≤ 1099511627776) : ofV l y = Hm.of (l.map tk) y := by
  unfold ofV; rw [if_pos (mayB_ok.2 ⟨hok, h0, h1⟩)]
theorem of_least {l : List S28} (hok : okL l) {y : Int} (h : y < leastV l) : Hm.of (l.map tk) y = 0 := by
  unfold leastV at h
  rw [if_pos ((rowB_ok l).2 hok)] at h
  have key : ∀ s ∈ l, y < s.f2 := by
    intro s hs
    cases l with
    | nil => simp at hs
    | cons a r =>
      have := Hm.minL_le_mem (m := a.f2) (l := (a :: r).map fun t => t.f2) (x := s.f2) (List.mem_map.2 ⟨s, hs, rfl⟩)
      simp only at h
      omega
  clear h hok
  induction l with
  | nil => rfl
  | cons s l ih =>
    simp only [List.map_cons, Hm.of]
    rw [Hm.many_lo (show y < (tk s).d from key s (by simp)), ih (fun a ha => key a (by simp [ha]))]; simp
/-- A path from a time on. -/
def PathOk (l : List S28) (L : Int) (p : Int × Bool) (xs : List (Int × Int)) : Prop :=
  (p.2 = false ↔ xs = []) ∧ (∀ q ∈ xs, q.2 = Hm.of (l.map tk) q.1 ∧ 1 ≤ q.1 ∧ q.1 ≤ p.1) ∧
  (∀ i (h : i + 1 < xs.length), xs[i + 1].1 < xs[i].1 ∧ xs[i].2 ≤ xs[i].1) ∧ ((∀ q ∈ xs, q.2 ≤ q.1) → ∀ y, 1 ≤ y → y < L → Hm.of (l.map tk) y ≤ y)
theorem path_walk {l : List S28} (hok : okL l) {L : Int} (hL : L ≤ 1099511627776) : ∀ (c : Nat) (p : Int × Bool), 0 < c → (p.2 = true → 1 ≤ p.1 ∧ p.1 < L ∧ p.1.toNat < c) →
    (p.2 = true → Hm.of (l.map tk) p.1 ≤ p.1 → ∀ y, p.1 ≤ y → y < L → Hm.of (l.map tk) y ≤ y) → (p.2 = false → ∀ y, 1 ≤ y → y < L → Hm.of (l.map tk) y ≤ y) →
    ∃ xs, pathGo l (leastV l) c p = some xs ∧ xs.length ≤ c ∧ PathOk l L p xs := by
  have hm := okL_map hok
  intro c
  induction c with
  | zero => intro p h; omega
  | succ c ih =>
    intro p _ h1 h2 h3
    obtain ⟨x, is⟩ := p
    unfold pathGo
    cases is with
    | false => exact ⟨[], by simp, by simp, by simp, by simp, by simp, fun _ => h3 rfl⟩
    | true =>
      obtain ⟨g1, g2, g3⟩ := h1 rfl
      simp only at g1 g2 g3 h2
      replace h2 := h2 trivial
      rw [if_pos rfl]
      simp only
      rw [ofV_ok hok (by omega) (by omega)]
      by_cases hs : Hm.of (l.map tk) x > x ∨ Hm.of (l.map tk) x ≤ leastV l
      · rw [if_pos hs]
        refine ⟨_, rfl, by simp, by simp, by simp; omega, by simp, fun hq => ?_⟩
        have hq1 : Hm.of (l.map tk) x ≤ x := hq (x, _) (by simp)
        rcases hs with hs | hs
        · omega
        · intro y hy1 hy2
          by_cases hyx : x ≤ y
          · exact h2 hq1 y hyx hy2
          · by_cases hyl : y < leastV l
            · rw [of_least hok hyl]; omega
            · have := Hm.of_mono hm (show y ≤ x by omega); omega
      · rw [if_neg hs]
        have hw : Hm.of (l.map tk) x ≤ x := by omega
        have hge := Hm.of_nonneg hm (show 0 ≤ x by omega)
        have fin : ∀ p' : Int × Bool, (p'.2 = true → 1 ≤ p'.1 ∧ p'.1 < x) → (p'.2 = true → Hm.of (l.map tk) p'.1 ≤ p'.1 → ∀ y, p'.1 ≤ y → y < L → Hm.of (l.map tk) y ≤ y) → (p'.2 = false → ∀ y, 1 ≤ y → y < L → Hm.of (l.map tk) y ≤ y) →
            ∃ xs, (pathGo l (leastV l) c p').map ((x, Hm.of (l.map tk) x) :: ·) = some xs ∧ xs.length ≤ c + 1 ∧ PathOk l L (x, true) xs := by
          intro p' k1 k2 k3
          obtain ⟨xs, e, e0, e1, e2, e3, e4⟩ := ih p' (by omega) (fun hp => by have := k1 hp; omega) k2 k3
          refine ⟨_, by rw [e]; rfl, by simp; omega, by simp, ?_, ?_, ?_⟩
          · intro q hq
            rcases List.mem_cons.1 hq with rfl | hq
            · exact ⟨rfl, g1, Int.le_refl _⟩
            · have := e2 q hq
              have hp : p'.2 = true := by
                cases hb : p'.2 with
                | true => rfl
                | false => rw [e1.1 hb] at hq; simp at hq
              have := k1 hp
              exact ⟨by omega, by omega, by simp only; omega⟩
          · intro i hi
            cases i with
            | zero =>
              cases xs with
              | nil => simp at hi
              | cons q xs =>
                have hp : p'.2 = true := by
                  cases hb : p'.2 with
                  | true => rfl
                  | false => have := e1.1 hb; simp at this
                have := k1 hp
                have := e2 q (by simp)
                simp only [List.getElem_cons_succ, List.getElem_cons_zero]
                omega
            | succ i => exact e3 i (by simp at hi; omega)
          · intro hq; exact e4 (fun q hq' => hq q (by simp [hq']))
        by_cases hlt : Hm.of (l.map tk) x < x
        · rw [if_pos hlt]
          have hle : 0 ≤ leastV l := by
            unfold leastV; split
            · cases l with
              | nil => simp
              | cons a r =>
                simp only
                rcases Hm.minL_mem a.f2 ((a :: r).map fun t => t.f2) with h | h
                · rw [h]; have := hok.2 a (by simp); obtain ⟨_, _, _, h4, _⟩ := this; simp only [tk] at *; omega
                · obtain ⟨b, hb, hb2⟩ := List.mem_map.1 h
                  have := hok.2 b hb; obtain ⟨_, _, _, h4, _⟩ := this; simp only [tk] at *; omega
            · omega
          refine fin _ (fun _ => ⟨by simp only; omega, hlt⟩) (fun _ _ y hy1 hy2 => ?_) (fun h => by simp at h)
          simp only at hy1
          by_cases hyx : x ≤ y
          · exact h2 hw y hyx hy2
          · have := Hm.of_mono hm (show y ≤ x by omega); omega
        · rw [if_neg hlt, beforeV_yes hok (by omega) (by omega)]
          have hb := Hm.before_ge (l.map tk) x
          refine fin _ (fun h => ?_) (fun _ hq y hy1 hy2 => ?_) (fun h y hy1 hy2 => ?_)
          · simp only [decide_eq_true_eq] at h ⊢
            exact ⟨by omega, Hm.before_lt hm (by omega)⟩
          · simp only at hq hy1
            by_cases hyx : x ≤ y
            · exact h2 hw y hyx hy2
            · rw [Hm.of_before hm hy1 (by omega)]; omega
          · simp only [decide_eq_false_iff_not] at h
            by_cases hyx : x ≤ y
            · exact h2 hw y hyx hy2
            · rw [Hm.of_before hm (x := x) (by omega) (by omega), show Hm.before (l.map tk) x = 0 by omega, Hm.of_zero hm]; omega
/-- Tasks fit. -/
def fitL (l : List S28) : Prop := Hm.loadN (l.map tk) (Hm.per (l.map tk) : Int) ≤ (Hm.per (l.map tk) : Int) ∧ ∀ y, 0 ≤ y → Hm.of (l.map tk) y ≤ y
theorem path_from {l : List S28} (hok : okL l) {L : Int} (hL0 : 0 ≤ L) (hL : L ≤ 1099511627776) (c : Nat) (hc : L.toNat < c) :
    ∃ xs, pathGo l (leastV l) c (beforeV l L) = some xs ∧ xs.length ≤ c ∧ PathOk l L (beforeV l L) xs := by
  have hm := okL_map hok
  have hb := Hm.before_ge (l.map tk) L
  rw [beforeV_yes hok hL0 hL]
  refine path_walk hok hL c _ (by omega) (fun h => ?_) (fun _ hq y hy1 hy2 => ?_) (fun h y hy1 hy2 => ?_)
  · simp only [decide_eq_true_eq] at h ⊢
    have := Hm.before_lt hm (x := L) (by omega)
    omega
  · simp only at hq hy1
    rw [Hm.of_before hm hy1 (by omega)]; omega
  · simp only [decide_eq_false_iff_not] at h
    rw [Hm.of_before hm (x := L) (by omega) (by omega), show Hm.before (l.map tk) L = 0 by omega, Hm.of_zero hm]; omega
/-- What a path tells of tasks whose load is not above 1. -/
theorem path_res {l : List S28} (hok : okL l) (hp : Hm.per (l.map tk) ≤ 1048576) (hf : Hm.loadN (l.map tk) (Hm.per (l.map tk) : Int) ≤ (Hm.per (l.map tk) : Int)) (k : Nat) (hk : 2147500000 < k) :
    ∃ L xs, busy_Length.f k l = some (L, 0) ∧ 0 ≤ L ∧ L ≤ (Hm.per (l.map tk) : Int) ∧ pathGo l (leastV l) k (beforeV l L) = some xs ∧ xs.length ≤ 1048577 ∧ PathOk l L (beforeV l L) xs ∧ (xs.all (fun p => decide (p.2 ≤ p.1)) = true ↔ fitL l) ∧ (∀ y, 1 ≤ y → y < L → Hm.of (l.map tk) y ≤ y) = fitL l := by
  have hm := okL_map hok
  by_cases hl : l = []
  · subst hl
    obtain ⟨xs, e1, e2, e3⟩ := path_from (l := []) hok (L := 0) (by omega) (by omega) 1 (by omega)
    have hx : xs = [] := e3.1.1 (by rw [beforeV_yes hok (by omega) (by omega)]; rfl)
    subst hx
    have hfit : fitL [] := ⟨hf, fun y hy => by simpa [Hm.of] using hy⟩
    refine ⟨0, [], Length_none k (by omega), by omega, by omega, ?_, by simp, e3, by simp [hfit], ?_⟩
    · exact pathGo_le (by omega) e1
    · simp only [hfit, eq_iff_iff, iff_true]; intro y _ _; omega
  · obtain ⟨L, a1, a2, a3, a4, a5⟩ := Length_fits k hok (by omega) hl hp hf
    obtain ⟨xs, e1, e2, e3⟩ := path_from hok (L := L) (by omega) (by omega) 1048577 (by omega)
    have hall : (∀ y, 1 ≤ y → y < L → Hm.of (l.map tk) y ≤ y) ↔ fitL l := ⟨fun h => ⟨hf, fun y hy => Hm.fits_all hm a3 a2 h y.toNat y (Nat.le_refl _) hy⟩, fun h y h1 h2 => h.2 y (by omega)⟩
    refine ⟨L, xs, a1, by omega, a4, pathGo_le (by omega) e1, e2, e3, ⟨fun h => hall.1 (e3.2.2.2 (by simpa using h)), fun h => ?_⟩, propext hall⟩
    simp only [List.all_eq_true, decide_eq_true_eq]
    intro q hq
    have := e3.2.1 q hq
    rw [this.1]; exact h.2 _ (by omega)
theorem Test_yes {l : List S28} (hok : okL l) (hp : Hm.per (l.map tk) ≤ 1048576) (k : Nat) (hk : 2147500000 < k) (h : fitL l) : qpa_Test.f k l = some 0 := by
  obtain ⟨L, xs, a1, a2, a3, a4, a5, a6, a7, _⟩ := path_res hok hp h.1 k hk
  unfold qpa_Test.f
  rw [a1]; simp only [Option.bind_some, if_true]
  rw [a4]; simp only [Option.bind_some]
  rw [if_pos (a7.2 h)]
theorem Test_not {l : List S28} (hok : okL l) (hp : Hm.per (l.map tk) ≤ 1048576) (k : Nat) (hk : 2147500000 < k) (h : ¬ fitL l) : qpa_Test.f k l = some 17 := by
  unfold qpa_Test.f
  by_cases hf : Hm.loadN (l.map tk) (Hm.per (l.map tk) : Int) ≤ (Hm.per (l.map tk) : Int)
  · obtain ⟨L, xs, a1, a2, a3, a4, a5, a6, a7, _⟩ := path_res hok hp hf k hk
    rw [a1]; simp only [Option.bind_some, if_true]
    rw [a4]; simp only [Option.bind_some]
    rw [if_neg (fun h' => h (a7.1 h'))]
  · rw [Length_over k hok (by omega) hp (by omega)]; rfl
theorem Test_long {l : List S28} (hok : okL l) (hp : ¬ Hm.per (l.map tk) ≤ 1048576) (k : Nat) (hk : 2147500000 < k) : qpa_Test.f k l = some 16 := by
  unfold qpa_Test.f
  rw [Length_long k hok (by omega) hp]; rfl
theorem Test_arg {l : List S28} (hok : ¬ okL l) (k : Nat) : qpa_Test.f k l = some 1 := by
  unfold qpa_Test.f
  rw [Length_arg k hok]; rfl

theorem and_3 (n : Int) : Go.bits .and .i64 n 3 = n % 4 := by
  have h127 : (BitVec.ofInt 64 3).toNat = 2 ^ 2 - 1 := by decide
  have key : (BitVec.ofInt 64 n &&& BitVec.ofInt 64 3).toNat = (n % ((2 ^ 64 : Nat) : Int)).toNat % 2 ^ 2 := by
    rw [BitVec.toNat_and, BitVec.toNat_ofInt, h127, Nat.and_two_pow_sub_one_eq_mod]
  show IntKind.i64.wrap ((BitVec.ofInt 64 n &&& BitVec.ofInt 64 3).toNat : Nat) = n % 4
  rw [key, IntKind.wrap_i64]
  omega

theorem and_7 (n : Int) : Go.bits .and .i64 n 7 = n % 8 := by
  have h127 : (BitVec.ofInt 64 7).toNat = 2 ^ 3 - 1 := by decide
  have key : (BitVec.ofInt 64 n &&& BitVec.ofInt 64 7).toNat = (n % ((2 ^ 64 : Nat) : Int)).toNat % 2 ^ 3 := by
    rw [BitVec.toNat_and, BitVec.toNat_ofInt, h127, Nat.and_two_pow_sub_one_eq_mod]
  show IntKind.i64.wrap ((BitVec.ofInt 64 n &&& BitVec.ofInt 64 7).toNat : Nat) = n % 8
  rw [key, IntKind.wrap_i64]
  omega

theorem and_15 (n : Int) : Go.bits .and .i64 n 15 = n % 16 := by
  have h127 : (BitVec.ofInt 64 15).toNat = 2 ^ 4 - 1 := by decide
  have key : (BitVec.ofInt 64 n &&& BitVec.ofInt 64 15).toNat = (n % ((2 ^ 64 : Nat) : Int)).toNat % 2 ^ 4 := by
    rw [BitVec.toNat_and, BitVec.toNat_ofInt, h127, Nat.and_two_pow_sub_one_eq_mod]
  show IntKind.i64.wrap ((BitVec.ofInt 64 n &&& BitVec.ofInt 64 15).toNat : Nat) = n % 16
  rw [key, IntKind.wrap_i64]
  omega

/-- Tasks by numbers. -/
def MadeP (r : List S28) : Prop := ∀ i (h : i < r.length), (r[i]).f0 = (i : Int) ∧ 1 ≤ (r[i]).f1 ∧ (r[i]).f1 ≤ (r[i]).f2 ∧ (r[i]).f2 ≤ (r[i]).f3 ∧ 2 ≤ (r[i]).f3 ∧ (r[i]).f3 ≤ 12 ∧ (r[i]).f3 ∣ 120 ∧ 1 ≤ (r[i]).f4 ∧ (r[i]).f4 ≤ 15
theorem mod_rng (a : Int) {m : Int} (h : 1 ≤ m) (hm : m ≤ 24) : 1 ≤ wrap64 (1 + Int.tmod (wrap64 (Int.tmod a m + m)) m) ∧ wrap64 (1 + Int.tmod (wrap64 (Int.tmod a m + m)) m) ≤ m := by
  have h1 : -m < Int.tmod a m ∧ Int.tmod a m < m := by
    rcases Int.le_total 0 a with ha | ha
    · have h2 := Int.tmod_lt_of_pos a (show 0 < m by omega); have h3 := Int.tmod_nonneg m ha; omega
    · have h2 := Int.tmod_lt_of_pos (-a) (show 0 < m by omega); have h3 := Int.tmod_nonneg m (show 0 ≤ -a by omega)
      rw [Int.neg_tmod] at h2 h3; omega
  rw [w64 (n := Int.tmod a m + m) (by omega) (by omega)]
  have h4 := Int.tmod_lt_of_pos (Int.tmod a m + m) (show 0 < m by omega); have h5 := Int.tmod_nonneg m (show 0 ≤ Int.tmod a m + m by omega)
  rw [w64 (by omega) (by omega)]; omega
theorem per_rng (j : Int) (h0 : 0 ≤ j) (h1 : j < 8) : 2 ≤ rd [2, 3, 4, 5, 6, 8, 10, 12] j ∧ rd [2, 3, 4, 5, 6, 8, 10, 12] j ≤ 12 ∧ rd [2, 3, 4, 5, 6, 8, 10, 12] j ∣ 120 := by
  have : j = 0 ∨ j = 1 ∨ j = 2 ∨ j = 3 ∨ j = 4 ∨ j = 5 ∨ j = 6 ∨ j = 7 := by omega
  rcases this with rfl | rfl | rfl | rfl | rfl | rfl | rfl | rfl <;> decide
theorem mode_rng (x : Int) : 1 ≤ wrap64 (1 + Int.tmod (bits BinOp.and IntKind.i64 x 15) 15) ∧ wrap64 (1 + Int.tmod (bits BinOp.and IntKind.i64 x 15) 15) ≤ 15 := by
  rw [and_15, Int.tmod_eq_emod_of_nonneg (by omega), w64 (by omega) (by omega)]; omega
theorem made_loop (l : List S31) (d : Nat) : ∀ (k i : Nat) (r : List S28), i + d = min l.length 8 → d < k → r.length = i → MadeP r →
    ∃ r', horariumlaw12_made.l0 k l r (i : Int) 2 3 4 5 6 8 10 12 = some r' ∧ r'.length = min l.length 8 ∧ MadeP r' := by
  induction d with
  | zero =>
    intro k i r hd hk hr hm
    obtain ⟨k, rfl⟩ := some_k hk
    refine ⟨r, ?_, by omega, hm⟩
    simp only [horariumlaw12_made.l0]
    by_cases h : (i : Int) < (l.length : Int)
    · rw [if_pos h, if_neg (by omega)]
    · rw [if_neg h]
  | succ d ih =>
    intro k i r hd hk hr hm
    obtain ⟨k, rfl⟩ := some_k (show 0 < k by omega)
    simp only [horariumlaw12_made.l0]
    rw [and_7, if_pos (by omega), if_pos (by omega), if_pos (by omega), if_pos (by omega), if_pos (by omega)]
    have hT := per_rng ((rd_T31 l (i : Int)).f2 % 8) (by omega) (by omega)
    generalize rd [2, 3, 4, 5, 6, 8, 10, 12] ((rd_T31 l (i : Int)).f2 % 8) = T at hT ⊢
    rw [if_neg (by omega)]
    have hD := mod_rng (rd_T31 l (i : Int)).f1 (m := T) (by omega) (by omega)
    generalize wrap64 (1 + Int.tmod (wrap64 (Int.tmod (rd_T31 l (i : Int)).f1 T + T)) T) = D at hD ⊢
    rw [if_neg (by omega), if_pos (by omega)]
    have hC := mod_rng (rd_T31 l (i : Int)).f0 (m := D) (by omega) (by omega)
    generalize wrap64 (1 + Int.tmod (wrap64 (Int.tmod (rd_T31 l (i : Int)).f0 D + D)) D) = C at hC ⊢
    have hM := mode_rng ((rd_T31 l (i : Int)).f2 / 8)
    rw [w64 (n := (i : Int) + 1) (by omega) (by omega)]
    have e : ((i : Int) + 1) = ((i + 1 : Nat) : Int) := by omega
    rw [e]
    refine ih k (i + 1) _ (by omega) (by omega) (by simp [hr]) ?_
    intro j hj
    by_cases h : j < r.length
    · rw [List.getElem_append_left h]; exact hm j h
    · have hj2 : j = r.length := by simp at hj; omega
      subst hj2
      rw [List.getElem_append_right (by omega)]
      simp only [Nat.sub_self, List.getElem_cons_zero]
      refine ⟨by omega, by omega, by omega, by omega, by omega, by omega, hT.2.2, ?_, ?_⟩ <;> omega
theorem made_is (l : List S31) (k : Nat) (hk : 8 < k) : ∃ r, horariumlaw12_made.f k l = some r ∧ r.length = min l.length 8 ∧ MadeP r := by
  unfold horariumlaw12_made.f
  exact made_loop l (min l.length 8) k 0 [] (by omega) (by omega) rfl (fun i h => by simp at h)
theorem MadeP.okL {r : List S28} (h : MadeP r) (hl : r.length ≤ 16) : okL r := by
  refine ⟨hl, fun s hs => ?_⟩
  obtain ⟨i, hi, rfl⟩ := List.getElem_of_mem hs
  have := h i hi
  unfold Hm.Tk.ok tk
  simp only
  omega
theorem rd_at {r : List S28} {i : Nat} (hi : i < r.length) : rd_T28 r (i : Int) = r[i] := by
  simp [rd_T28, hi]

theorem awake_is : ∀ k, 60 ≤ k → horariumlaw12_awake.f k = some true := by
  have h : horariumlaw12_awake.f 60 = some true := by decide +kernel
  intro k hk
  exact at_rounds (horariumlaw12_awake.mono) hk h

theorem idx_rng (a : Int) {m : Int} (h : 1 ≤ m) (hm : m ≤ 24) : 0 ≤ Int.tmod (wrap64 (Int.tmod a m + m)) m ∧ Int.tmod (wrap64 (Int.tmod a m + m)) m < m := by
  have h1 : -m < Int.tmod a m ∧ Int.tmod a m < m := by
    rcases Int.le_total 0 a with ha | ha
    · have h2 := Int.tmod_lt_of_pos a (show 0 < m by omega); have h3 := Int.tmod_nonneg m ha; omega
    · have h2 := Int.tmod_lt_of_pos (-a) (show 0 < m by omega); have h3 := Int.tmod_nonneg m (show 0 ≤ -a by omega)
      rw [Int.neg_tmod] at h2 h3; omega
  rw [w64 (n := Int.tmod a m + m) (by omega) (by omega)]
  have h4 := Int.tmod_lt_of_pos (Int.tmod a m + m) (show 0 < m by omega); have h5 := Int.tmod_nonneg m (show 0 ≤ Int.tmod a m + m by omega)
  omega
theorem of_set {a : Hm.Tk} {x : Int} : ∀ (l : List Hm.Tk) (i : Nat) (h : i < l.length), a.c * Hm.many a x ≤ (l[i]).c * Hm.many l[i] x → Hm.of (l.set i a) x ≤ Hm.of l x
  | [], i, h, _ => by simp at h
  | t :: l, 0, _, h => by simp only [List.set_cons_zero, Hm.of, List.getElem_cons_zero] at h ⊢; omega
  | t :: l, i + 1, hi, h => by
    have := of_set l i (by simpa using hi) (by simpa using h)
    simp only [List.set_cons_succ, Hm.of]; omega
theorem load_set {a : Hm.Tk} {p : Int} : ∀ (l : List Hm.Tk) (i : Nat) (h : i < l.length), a.c * (p / a.t) ≤ (l[i]).c * (p / (l[i]).t) → Hm.loadN (l.set i a) p ≤ Hm.loadN l p
  | [], i, h, _ => by simp at h
  | t :: l, 0, _, h => by simp only [List.set_cons_zero, Hm.loadN, List.getElem_cons_zero] at h ⊢; omega
  | t :: l, i + 1, hi, h => by
    have := load_set l i (by simpa using hi) (by simpa using h)
    simp only [List.set_cons_succ, Hm.loadN]; omega
theorem of_erase {x : Int} (hx : 0 ≤ x) : ∀ (l : List Hm.Tk) (i : Nat), (∀ t ∈ l, t.ok) → Hm.of (l.eraseIdx i) x ≤ Hm.of l x
  | [], i, _ => by simp
  | t :: l, 0, h => by
    have := Hm.work_le (h t (by simp)) hx
    simp only [List.eraseIdx_cons_zero, Hm.of]; omega
  | t :: l, i + 1, h => by
    have := of_erase hx l i (fun s hs => h s (by simp [hs]))
    simp only [List.eraseIdx_cons_succ, Hm.of]; omega
theorem load_erase {p : Int} (hp : 0 ≤ p) : ∀ (l : List Hm.Tk) (i : Nat), (∀ t ∈ l, t.ok) → Hm.loadN (l.eraseIdx i) p ≤ Hm.loadN l p
  | [], i, _ => by simp
  | t :: l, 0, h => by
    obtain ⟨_, _, h2, h3, h4, _⟩ := h t (by simp)
    have := Int.mul_nonneg (show 0 ≤ t.c by omega) (Int.ediv_nonneg hp (show 0 ≤ t.t by omega))
    simp only [List.eraseIdx_cons_zero, Hm.loadN]; omega
  | t :: l, i + 1, h => by
    have := load_erase hp l i (fun s hs => h s (by simp [hs]))
    simp only [List.eraseIdx_cons_succ, Hm.loadN]; omega
theorem map_erase (l : List S28) : ∀ i, (l.eraseIdx i).map tk = (l.map tk).eraseIdx i := by
  induction l with
  | nil => intro i; rfl
  | cons a l ih => intro i; cases i with
    | zero => rfl
    | succ i => simp only [List.eraseIdx_cons_succ, List.map_cons, ih]
/-- Rows of tasks whose periods divide 240. -/
def Ok240 (l : List S28) : Prop := okL l ∧ ∀ s ∈ l, s.f3 ∣ 240
theorem Ok240.dvd {l : List S28} (h : Ok240 l) : ∀ t ∈ l.map tk, t.t ∣ 240 := fun t ht => by
  obtain ⟨y, hy, rfl⟩ := List.mem_map.1 ht; exact h.2 y hy
theorem Ok240.per {l : List S28} (h : Ok240 l) : Hm.per (l.map tk) ≤ 240 := Nat.le_of_dvd (by omega) (Hm.per_least (okL_map h.1) h.dvd)
theorem Ok240.fits {l : List S28} (h : Ok240 l) : Hm.loadN (l.map tk) 240 ≤ 240 ↔ Hm.loadN (l.map tk) (Hm.per (l.map tk) : Int) ≤ (Hm.per (l.map tk) : Int) := Hm.fits_at (okL_map h.1) (by omega) h.dvd
theorem test_less {l m : List S28} (hl : Ok240 l) (hm : Ok240 m) (k : Nat) (hk : 2147500000 < k) (hf : fitL l) (h1 : Hm.loadN (m.map tk) 240 ≤ Hm.loadN (l.map tk) 240) (h2 : ∀ x, 0 ≤ x → Hm.of (m.map tk) x ≤ Hm.of (l.map tk) x) : qpa_Test.f k m = some 0 := by
  have := hm.per
  have h3 := hl.fits.2 hf.1
  refine Test_yes hm.1 (by omega) k hk ⟨hm.fits.1 (by omega), fun y hy => ?_⟩
  have := h2 y hy; have := hf.2 y hy; omega
theorem test_set {l : List S28} {s : S28} {i : Nat} (hi : i < l.length) (hl : Ok240 l) (hs : (tk s).ok) (hd : s.f3 ∣ 240) (k : Nat) (hk : 2147500000 < k) (hf : fitL l) (h1 : s.f1 ≤ (l[i]).f1) (h2 : (l[i]).f2 ≤ s.f2) (h3 : (l[i]).f3 ≤ s.f3) : qpa_Test.f k (l.set i s) = some 0 := by
  have hm : Ok240 (l.set i s) := by
    refine ⟨⟨by simpa using hl.1.1, fun a ha => ?_⟩, fun a ha => ?_⟩
    · rcases List.mem_or_eq_of_mem_set ha with h | rfl
      · exact hl.1.2 a h
      · exact hs
    · rcases List.mem_or_eq_of_mem_set ha with h | rfl
      · exact hl.2 a h
      · exact hd
  have ho := hl.1.2 _ (List.getElem_mem hi)
  obtain ⟨_, _, a2, a3, a4, _⟩ := ho
  obtain ⟨_, _, b2, b3, b4, _⟩ := id hs
  have e : (l.map tk)[i]'(by simpa using hi) = tk l[i] := by simp
  refine test_less hl hm k hk hf ?_ (fun x hx => ?_)
  · rw [List.map_set]
    refine load_set _ _ (by simpa using hi) ?_
    rw [e]
    have p1 : 0 < (l[i]).f3 := by show 0 < (tk l[i]).t; omega
    have hq0 : 0 ≤ 240 / s.f3 := Int.ediv_nonneg (by omega) (by omega)
    have hq : 240 / s.f3 ≤ 240 / (l[i]).f3 := by
      refine Int.le_ediv_of_mul_le p1 ?_
      have a := Int.ediv_mul_le 240 (show s.f3 ≠ 0 by omega)
      have b := Int.mul_le_mul_of_nonneg_left h3 hq0
      omega
    exact Int.mul_le_mul h1 hq hq0 (show 0 ≤ (tk l[i]).c by omega)
  · rw [List.map_set]
    refine of_set _ _ (by simpa using hi) ?_
    rw [e]
    have hq : Hm.many (tk s) x ≤ Hm.many (tk l[i]) x := Hm.many_less (by omega) (by omega) h2 h3
    exact Int.mul_le_mul h1 hq (Hm.many_nonneg (by omega)) (by omega)
theorem test_erase {l : List S28} (i : Nat) (hl : Ok240 l) (k : Nat) (hk : 2147500000 < k) (hf : fitL l) : qpa_Test.f k (l.eraseIdx i) = some 0 := by
  have hsub : ∀ a ∈ l.eraseIdx i, a ∈ l := fun a ha => List.mem_of_mem_eraseIdx ha
  have hlen : (l.eraseIdx i).length ≤ l.length := (List.eraseIdx_sublist l i).length_le
  refine test_less hl ⟨⟨by have := hl.1.1; omega, fun a ha => hl.1.2 a (hsub a ha)⟩, fun a ha => hl.2 a (hsub a ha)⟩ k hk hf ?_ (fun x hx => ?_)
  · rw [map_erase]; exact load_erase (by omega) _ _ (okL_map hl.1)
  · rw [map_erase]; exact of_erase hx _ _ (okL_map hl.1)
theorem made_120 {t : List S28} (hm : MadeP t) (hl : t.length ≤ 16) : Ok120 t := ⟨hm.okL hl, fun s hs => by
  obtain ⟨i, hi, rfl⟩ := List.getElem_of_mem hs
  exact (hm i hi).2.2.2.2.2.2.1⟩
theorem less_j0 {t : List S28} (ht : Ok120 t) (hl : t.length ≤ 8) (x1 x2 : Int) (k : Nat) (hk : 2147500003 < k) : horariumlaw12_QpaLess.j0 k x1 x2 true t = some true := by
  have hok := ht.1
  have hp := ht.per
  have h240 : Ok240 t := ⟨hok, fun s hs => Int.dvd_trans (ht.2 s hs) ⟨2, by omega⟩⟩
  obtain ⟨k, rfl⟩ := some_k (show 0 < k by omega)
  obtain ⟨k, rfl⟩ := some_k (show 0 < k by omega)
  simp only [horariumlaw12_QpaLess.j0]
  by_cases h0 : (t.length : Int) = 0
  · rw [if_pos h0]; simp only [horariumlaw12_QpaLess.j1]; rw [if_pos trivial]
  rw [if_neg h0]
  by_cases hf : fitL t
  case neg =>
    rw [Test_not hok (by omega) (k + 1) (by omega) hf]; simp only [Option.bind_some]
    rw [show ((17 : Int) != 0) = true from rfl]; simp only [horariumlaw12_QpaLess.j1]; rw [if_pos trivial]
  rw [Test_yes hok (by omega) (k + 1) (by omega) hf]; simp only [Option.bind_some]
  rw [show ((0 : Int) != 0) = false from rfl]; simp only [horariumlaw12_QpaLess.j1]
  rw [if_neg (by simp), if_neg h0]
  simp only [Option.bind_some, List.length_nil, List.nil_append, Nat.zero_add]
  rw [if_pos (by omega)]
  simp only [Option.bind_some, if_true]
  have hi := idx_rng x1 (m := (t.length : Int)) (by omega) (by omega)
  generalize Int.tmod (wrap64 (Int.tmod x1 (t.length : Int) + (t.length : Int))) (t.length : Int) = j at hi
  obtain ⟨i, rfl⟩ : ∃ i : Nat, j = (i : Int) := ⟨j.toNat, by omega⟩
  have hit : i < t.length := by omega
  have hs : rd_T28 t (i : Int) = t[i] := rd_at hit
  have ho := hok.2 _ (List.getElem_mem hit)
  have hd := ht.2 _ (List.getElem_mem hit)
  have hd12 := Int.le_of_dvd (by omega) hd
  obtain ⟨o0, o1, o2, o3, o4, o5, o6, o7⟩ := id ho
  simp only [tk] at o0 o1 o2 o3 o4 o5 o6 o7
  have hT := Test_yes hok (by omega) k (by omega) hf
  rw [hs, Int.toNat_natCast, hT, test_erase i h240 k (by omega) hf]
  rw [w64 (n := (i : Int) + 1) (by omega) (by omega), w64 (n := t[i].f1 - 1) (by omega) (by omega), w64 (n := t[i].f2 + 1) (by omega) (by omega), w64 (n := 2 * t[i].f3) (by omega) (by omega)]
  rw [and_3]
  have hx := Int.emod_nonneg x2 (show (4 : Int) ≠ 0 by omega)
  by_cases c0 : x2 % 4 = 0
  · rw [if_pos c0, if_pos (by omega), if_pos (by omega), if_pos (by omega), if_pos (by omega)]; rfl
  rw [if_neg c0]
  by_cases c1 : x2 % 4 = 1
  · rw [if_pos c1, if_pos (by omega), if_pos (by omega)]
    by_cases g : t[i].f1 > 1
    · rw [if_pos g, test_set (s := ⟨t[i].f0, t[i].f1 - 1, t[i].f2, t[i].f3, t[i].f4⟩) hit h240 (by unfold Hm.Tk.ok tk; simp only; omega) (Int.dvd_trans hd ⟨2, by omega⟩) k (by omega) hf (by simp only; omega) (by simp only; omega) (by simp only; omega)]; rfl
    · rw [if_neg g]; rfl
  rw [if_neg c1]
  by_cases c2 : x2 % 4 = 2
  · rw [if_pos c2, if_pos (by omega), if_pos (by omega)]
    by_cases g : t[i].f2 < t[i].f3
    · rw [if_pos g, test_set (s := ⟨t[i].f0, t[i].f1, t[i].f2 + 1, t[i].f3, t[i].f4⟩) hit h240 (by unfold Hm.Tk.ok tk; simp only; omega) (Int.dvd_trans hd ⟨2, by omega⟩) k (by omega) hf (by simp only; omega) (by simp only; omega) (by simp only; omega)]; rfl
    · rw [if_neg g]; rfl
  rw [if_neg c2, if_pos (by omega), if_pos (by omega), if_pos (by omega)]
  obtain ⟨q, hq⟩ := hd
  rw [test_set (s := ⟨t[i].f0, t[i].f1, t[i].f2, 2 * t[i].f3, t[i].f4⟩) hit h240 (by unfold Hm.Tk.ok tk; simp only; omega) ⟨q, by simp only; rw [Int.mul_assoc, ← hq]; omega⟩ k (by omega) hf (by simp only; omega) (by simp only; omega) (by simp only; omega)]; rfl
theorem QpaLess : horariumlaw12_QpaLess.Pure := by
  intro l x1 x2 _ _ _ _
  obtain ⟨K, hK⟩ : ∃ K : Nat, 2147500003 < K := ⟨2147500004, by omega⟩
  obtain ⟨t, hr, hl, hm⟩ := made_is l K (by omega)
  have ht := made_120 hm (by omega)
  refine ⟨K, ?_⟩
  unfold horariumlaw12_QpaLess.f
  rw [awake_is K (by omega), hr]
  simp only [Option.bind_some]
  by_cases h6 : (t.length : Int) > 6
  · rw [if_pos h6, if_pos (by omega)]
    exact less_j0 ⟨⟨by simp; omega, fun s hs => ht.1.2 s (List.mem_of_mem_take hs)⟩, fun s hs => ht.2 s (List.mem_of_mem_take hs)⟩ (by simp; omega) x1 x2 K hK
  · rw [if_neg h6]
    exact less_j0 ht (by omega) x1 x2 K hK
end Go.Proofs.Ythiepacmdlgajaa.Pure
