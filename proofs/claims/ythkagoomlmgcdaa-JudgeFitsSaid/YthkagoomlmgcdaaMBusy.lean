/- Plain facts on the time that tasks keep busy: the work at a common multiple of the periods, and at the first time. -/
import Derived.Test.YthkagoomlmgcdaaMWork
import Derived.Test.YthkagoomlmgcdaaMLcm

namespace Hm
set_option linter.unusedVariables false
set_option linter.unusedSimpArgs false
theorem jobs_mult {t : Tk} {p : Int} (ht : 0 < t.t) (hd : t.t ∣ p) : jobs t p = p / t.t := by
  obtain ⟨a, rfl⟩ := hd
  unfold jobs
  rw [Int.mul_ediv_cancel_left _ (show t.t ≠ 0 by omega)]
  exact quo_eq ht (by omega) (by omega)
theorem work_load {l : List Tk} (h : ∀ t ∈ l, t.ok) {p : Int} (hd : ∀ t ∈ l, t.t ∣ p) : work l p = loadN l p := by
  induction l with
  | nil => rfl
  | cons t l ih =>
    obtain ⟨_, _, h2, h3, h4, _⟩ := h t (by simp)
    simp only [work, loadN]
    rw [jobs_mult (by omega) (hd t (by simp)), ih (fun s hs => h s (by simp [hs])) (fun s hs => hd s (by simp [hs]))]
def sumC : List Tk → Int
  | [] => 0
  | t :: l => t.c + sumC l
theorem work_one {l : List Tk} (h : ∀ t ∈ l, t.ok) : work l 1 = sumC l := by
  induction l with
  | nil => rfl
  | cons t l ih =>
    obtain ⟨_, _, h2, h3, h4, _⟩ := h t (by simp)
    have e : jobs t 1 = 1 := by unfold jobs; exact quo_eq (by omega) (by omega) (by omega)
    simp only [work, sumC]
    rw [e, ih (fun s hs => h s (by simp [hs])), Int.mul_one]
theorem sumC_append (l m : List Tk) : sumC (l ++ m) = sumC l + sumC m := by
  induction l with
  | nil => simp [sumC]
  | cons t l ih => simp only [List.cons_append, sumC, ih]; omega
theorem sumC_le {l : List Tk} (h : ∀ t ∈ l, t.ok) : (l.length : Int) ≤ sumC l ∧ sumC l ≤ (l.length : Int) * 2147483648 := by
  induction l with
  | nil => simp [sumC]
  | cons t l ih =>
    obtain ⟨_, _, h2, h3, h4, h5, _⟩ := h t (by simp)
    have := ih (fun s hs => h s (by simp [hs]))
    simp only [sumC, List.length_cons]; omega
theorem load_scale {l : List Tk} (h : ∀ t ∈ l, t.ok) {p q : Int} (hp : 0 < p) (hd : ∀ t ∈ l, t.t ∣ p) (hq : p ∣ q) : loadN l q = loadN l p * (q / p) := by
  induction l with
  | nil => simp [loadN]
  | cons t l ih =>
    obtain ⟨_, _, h2, h3, h4, h5, _, _⟩ := h t (by simp)
    have e : q / t.t = p / t.t * (q / p) := by
      obtain ⟨a, ha⟩ := hd t (by simp)
      obtain ⟨b, hb⟩ := hq
      rw [hb, Int.mul_ediv_cancel_left _ (show p ≠ 0 by omega), ha, Int.mul_ediv_cancel_left _ (show t.t ≠ 0 by omega), Int.mul_assoc, Int.mul_ediv_cancel_left _ (show t.t ≠ 0 by omega)]
    simp only [loadN]
    rw [ih (fun s hs => h s (by simp [hs])) (fun s hs => hd s (by simp [hs])), Int.add_mul, e, Int.mul_assoc]
/-- Whether tasks fit may be asked at any common multiple of their periods. -/
theorem fits_at {l : List Tk} (h : ∀ t ∈ l, t.ok) {q : Int} (h0 : 0 < q) (hd : ∀ t ∈ l, t.t ∣ q) : loadN l q ≤ q ↔ loadN l (per l : Int) ≤ (per l : Int) := by
  have hp := per_pos h
  obtain ⟨n, rfl⟩ : ∃ n : Nat, q = (n : Int) := ⟨q.toNat, by omega⟩
  have hq : (per l : Int) ∣ (n : Int) := Int.natCast_dvd_natCast.2 (per_least h hd)
  have e := load_scale h (p := (per l : Int)) (by omega) (fun t ht => per_dvd h ht) hq
  obtain ⟨b, hb⟩ := hq
  rw [hb, Int.mul_ediv_cancel_left _ (show (per l : Int) ≠ 0 by omega)] at e
  have hbp : 0 < b := by
    by_cases h : 0 < b
    · exact h
    · have := Int.mul_le_mul_of_nonneg_left (show b ≤ 0 by omega) (show 0 ≤ (per l : Int) by omega); omega
  rw [hb, e]
  exact ⟨fun h => Int.le_of_mul_le_mul_right h hbp, fun h => Int.mul_le_mul_of_nonneg_right h (by omega)⟩
end Hm
