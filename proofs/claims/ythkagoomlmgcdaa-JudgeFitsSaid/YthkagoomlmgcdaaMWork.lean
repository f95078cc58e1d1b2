/- Plain facts on the work that is released ahead of a time. -/
import Derived.Test.YthkagoomlmgcdaaMDem

namespace Hm
set_option linter.unusedVariables false
set_option linter.unusedSimpArgs false
/-- How many times from 0 on, each a period behind the last one, lie ahead of x. -/
def jobs (t : Tk) (x : Int) : Int := (x + t.t - 1) / t.t
def work : List Tk → Int → Int
  | [], _ => 0
  | t :: l, x => t.c * jobs t x + work l x
theorem work_append (l m : List Tk) (x : Int) : work (l ++ m) x = work l x + work m x := by
  induction l with
  | nil => simp [work]
  | cons t l ih => simp only [List.cons_append, work, ih]; omega
theorem jobs_nonneg {t : Tk} {x : Int} (ht : 0 < t.t) (hx : 0 ≤ x) : 0 ≤ jobs t x := Int.ediv_nonneg (by omega) (by omega)
theorem jobs_le_iff {t : Tk} {x n : Int} (ht : 0 < t.t) : jobs t x ≤ n ↔ x ≤ t.t * n := by
  unfold jobs
  constructor
  · intro h
    have h1 := quo_hi (x + t.t - 1) ht
    have h2 := mul_le (a := t.t) (by omega) h
    omega
  · intro h
    have h1 : (x + t.t - 1) / t.t < n + 1 := by
      rw [Int.ediv_lt_iff_lt_mul ht, Int.mul_comm, Int.mul_add, Int.mul_one]; omega
    omega
theorem jobs_up {t : Tk} {x : Int} (ht : 0 < t.t) : x ≤ t.t * jobs t x := (jobs_le_iff ht).1 (by omega)
theorem jobs_mono {t : Tk} {x y : Int} (ht : 0 < t.t) (h : x ≤ y) : jobs t x ≤ jobs t y := by
  rw [jobs_le_iff ht]; have := jobs_up (t := t) (x := y) ht; omega
theorem jobw_le {t : Tk} {x : Int} (h : t.ok) (hx : 0 ≤ x) : 0 ≤ t.c * jobs t x ∧ t.c * jobs t x ≤ x + 2147483648 := by
  obtain ⟨_, _, h2, h3, h4, h5, _, _⟩ := h
  have hj := jobs_nonneg (t := t) (by omega) hx
  have h6 := quo_lo (x + t.t - 1) (show 0 < t.t by omega)
  have h7 := Int.mul_le_mul_of_nonneg_right (show t.c ≤ t.t by omega) hj
  have h8 : t.t * jobs t x ≤ x + t.t - 1 := h6
  exact ⟨Int.mul_nonneg (by omega) hj, by omega⟩
theorem work_nonneg {l : List Tk} {x : Int} (h : ∀ t ∈ l, t.ok) (hx : 0 ≤ x) : 0 ≤ work l x := by
  induction l with
  | nil => simp [work]
  | cons t l ih =>
    have h1 := (jobw_le (h t (by simp)) hx).1; have h2 := ih (fun s hs => h s (by simp [hs]))
    simp only [work]; omega
theorem work_bound {l : List Tk} {x : Int} (h : ∀ t ∈ l, t.ok) (hx : 0 ≤ x) : work l x ≤ (l.length : Int) * (x + 2147483648) := by
  induction l with
  | nil => simp [work]
  | cons t l ih =>
    have h1 := (jobw_le (h t (by simp)) hx).2; have h2 := ih (fun s hs => h s (by simp [hs]))
    simp only [work, List.length_cons]
    have e : ((l.length + 1 : Nat) : Int) * (x + 2147483648) = (l.length : Int) * (x + 2147483648) + (x + 2147483648) := by
      rw [show ((l.length + 1 : Nat) : Int) = (l.length : Int) + 1 from by omega, Int.add_mul, Int.one_mul]
    omega
theorem work_mono {l : List Tk} {x y : Int} (h : ∀ t ∈ l, t.ok) (hxy : x ≤ y) : work l x ≤ work l y := by
  induction l with
  | nil => simp [work]
  | cons t l ih =>
    have h2 := ih (fun s hs => h s (by simp [hs])); obtain ⟨_, _, h5, h6, h7, _, _, _⟩ := h t (by simp)
    have h1 := mul_le (a := t.c) (by omega) (jobs_mono (t := t) (by omega) hxy)
    simp only [work]; omega
theorem jobs_later {t : Tk} {x : Int} (ht : 0 < t.t) : jobs t (x + t.t) = jobs t x + 1 := by
  unfold jobs
  rw [show x + t.t + t.t - 1 = (x + t.t - 1) + 1 * t.t by omega, Int.add_mul_ediv_right _ _ (by omega)]
theorem jobs_zero {t : Tk} (ht : 0 < t.t) : jobs t 0 = 0 := by
  unfold jobs; exact Int.ediv_eq_zero_of_lt (by omega) (by omega)
theorem many_le_jobs {t : Tk} {x : Int} (ht : 0 < t.t) (hd : 1 ≤ t.d) (hx : 0 ≤ x) : many t x ≤ jobs t x := by
  by_cases h : x < t.d
  · rw [many_lo h]; exact jobs_nonneg ht hx
  · rw [many_hi (by omega)]; unfold jobs
    have := Int.ediv_le_ediv ht (show x - t.d + 1 * t.t ≤ x + t.t - 1 by omega)
    rw [Int.add_mul_ediv_right _ _ (by omega)] at this; omega
theorem work_zero {l : List Tk} (h : ∀ t ∈ l, t.ok) : work l 0 = 0 := by
  induction l with
  | nil => rfl
  | cons t l ih =>
    obtain ⟨_, _, h2, h3, h4, _⟩ := h t (by simp)
    simp only [work]; rw [jobs_zero (by omega), ih (fun s hs => h s (by simp [hs]))]; simp
end Hm
