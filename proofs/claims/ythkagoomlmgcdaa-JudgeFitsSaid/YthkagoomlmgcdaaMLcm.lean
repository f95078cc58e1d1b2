/- Plain facts on common multiples: the least one of all periods, and what tasks load by it. -/
import Derived.Test.YthkagoomlmgcdaaMDem

namespace Hm
set_option linter.unusedVariables false
set_option linter.unusedSimpArgs false
/-- The least common multiple of a number and all of a row. -/
def perFrom : Nat → List Nat → Nat
  | m, [] => m
  | m, t :: l => perFrom (Nat.lcm m t) l
theorem perFrom_start (m : Nat) (l : List Nat) : m ∣ perFrom m l := by
  induction l generalizing m with
  | nil => exact Nat.dvd_refl _
  | cons t l ih => exact Nat.dvd_trans (Nat.dvd_lcm_left m t) (ih _)
theorem perFrom_mem (m : Nat) (l : List Nat) {t : Nat} (h : t ∈ l) : t ∣ perFrom m l := by
  induction l generalizing m with
  | nil => cases h
  | cons s l ih =>
    rcases List.mem_cons.1 h with rfl | h
    · exact Nat.dvd_trans (Nat.dvd_lcm_right m t) (perFrom_start _ _)
    · exact ih _ h
theorem perFrom_least {m n : Nat} {l : List Nat} (hm : m ∣ n) (h : ∀ t, t ∈ l → t ∣ n) : perFrom m l ∣ n := by
  induction l generalizing m with
  | nil => exact hm
  | cons s l ih => exact ih (Nat.lcm_dvd hm (h s (by simp))) (fun t ht => h t (by simp [ht]))
theorem perFrom_pos {m : Nat} {l : List Nat} (hm : 0 < m) (h : ∀ t, t ∈ l → 0 < t) : 0 < perFrom m l := by
  induction l generalizing m with
  | nil => exact hm
  | cons s l ih => exact ih (Nat.lcm_pos hm (h s (by simp))) (fun t ht => h t (by simp [ht]))
theorem perFrom_le_mul {m : Nat} {l : List Nat} {b : Nat} (h : ∀ t, t ∈ l → t ≤ b) (hb : 0 < b) : perFrom m l ≤ m * b ^ l.length := by
  induction l generalizing m with
  | nil => simp [perFrom]
  | cons s l ih =>
    have h1 := ih (m := Nat.lcm m s) (fun t ht => h t (by simp [ht]))
    have h2 : Nat.lcm m s ≤ m * b := Nat.le_trans (Nat.div_le_self _ _) (Nat.mul_le_mul_left m (h s (by simp)))
    simp only [perFrom, List.length_cons]
    refine Nat.le_trans h1 ?_
    rw [Nat.pow_succ, Nat.mul_comm (b ^ l.length) b, ← Nat.mul_assoc]
    exact Nat.mul_le_mul_right _ h2
/-- A multiple's quotient, as whole numbers of either kind. -/
theorem mul_quo_gcd {m t : Nat} (ht : 0 < t) : m * (t / Nat.gcd m t) = Nat.lcm m t := by
  have hg : Nat.gcd m t ∣ t := Nat.gcd_dvd_right m t
  unfold Nat.lcm
  rw [Nat.mul_div_assoc m hg]
/-- The common period of tasks. -/
def per (l : List Tk) : Nat := perFrom 1 (l.map fun t => t.t.toNat)
theorem per_pos {l : List Tk} (h : ∀ t ∈ l, t.ok) : 0 < per l := by
  refine perFrom_pos (by omega) (fun t ht => ?_)
  obtain ⟨s, hs, rfl⟩ := List.mem_map.1 ht
  obtain ⟨_, _, h2, h3, h4, _⟩ := h s hs
  omega
theorem per_dvd {l : List Tk} (h : ∀ t ∈ l, t.ok) {t : Tk} (ht : t ∈ l) : t.t ∣ (per l : Int) := by
  have h1 : t.t.toNat ∣ per l := perFrom_mem 1 _ (List.mem_map.2 ⟨t, ht, rfl⟩)
  obtain ⟨_, _, h2, h3, h4, _⟩ := h t ht
  have h5 : ((t.t.toNat : Nat) : Int) ∣ (per l : Int) := Int.natCast_dvd_natCast.2 h1
  rwa [Int.toNat_of_nonneg (by omega)] at h5
theorem per_least {l : List Tk} (h : ∀ t ∈ l, t.ok) {n : Nat} (hn : ∀ t ∈ l, t.t ∣ (n : Int)) : per l ∣ n := by
  refine perFrom_least (Nat.one_dvd _) (fun t ht => ?_)
  obtain ⟨s, hs, rfl⟩ := List.mem_map.1 ht
  obtain ⟨_, _, h2, h3, h4, _⟩ := h s hs
  have h5 := hn s hs
  rw [← Int.toNat_of_nonneg (show 0 ≤ s.t by omega)] at h5
  exact Int.natCast_dvd_natCast.1 h5
/-- What tasks load, by a period p. -/
def loadN : List Tk → Int → Int
  | [], _ => 0
  | t :: l, p => t.c * (p / t.t) + loadN l p
theorem loadN_append (l m : List Tk) (p : Int) : loadN (l ++ m) p = loadN l p + loadN m p := by
  induction l with
  | nil => simp [loadN]
  | cons t l ih => simp only [List.cons_append, loadN, ih]; omega
theorem load_le {t : Tk} (h : t.ok) {p : Int} (hp : 0 ≤ p) : 0 ≤ t.c * (p / t.t) ∧ t.c * (p / t.t) ≤ p := by
  obtain ⟨_, _, h2, h3, h4, h5, _, _⟩ := h
  have hq := Int.ediv_nonneg hp (show 0 ≤ t.t by omega)
  have h6 := quo_lo p (show 0 < t.t by omega)
  have := Int.mul_le_mul_of_nonneg_right (show t.c ≤ t.t by omega) hq
  exact ⟨Int.mul_nonneg (by omega) hq, by omega⟩
theorem loadN_le {l : List Tk} (h : ∀ t ∈ l, t.ok) {p : Int} (hp : 0 ≤ p) : 0 ≤ loadN l p ∧ loadN l p ≤ (l.length : Int) * p := by
  induction l with
  | nil => simp [loadN]
  | cons t l ih =>
    have h1 := load_le (h t (by simp)) hp; have h2 := ih (fun s hs => h s (by simp [hs]))
    simp only [loadN, List.length_cons]
    have e : ((l.length + 1 : Nat) : Int) * p = (l.length : Int) * p + p := by
      rw [show ((l.length + 1 : Nat) : Int) = (l.length : Int) + 1 from by omega, Int.add_mul, Int.one_mul]
    omega
end Hm
