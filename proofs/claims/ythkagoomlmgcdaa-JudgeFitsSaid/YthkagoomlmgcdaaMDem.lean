/- Plain facts on tasks: how much work there is by a time, deadlines behind and ahead of a time. -/

namespace Hm
set_option linter.unusedVariables false
set_option linter.unusedSimpArgs false
structure Tk where
  id : Int
  c : Int
  d : Int
  t : Int
  m : Int
def Tk.ok (t : Tk) : Prop := 0 ≤ t.id ∧ t.id ≤ 1023 ∧ 0 < t.c ∧ t.c ≤ t.d ∧ t.d ≤ t.t ∧ t.t ≤ 2147483648 ∧ 0 < t.m ∧ t.m ≤ 15
/-- A quotient is what its two bounds say. -/
theorem quo_eq {a t q : Int} (ht : 0 < t) (h1 : t * q ≤ a) (h2 : a < t * q + t) : a / t = q := by
  have e : a = q * t + (a - t * q) := by rw [Int.mul_comm q t]; omega
  rw [e, Int.add_comm, Int.add_mul_ediv_right _ _ (by omega), Int.ediv_eq_zero_of_lt (by omega) (by omega)]; omega
theorem quo_lo (a : Int) {t : Int} (ht : 0 < t) : t * (a / t) ≤ a := by
  have := Int.mul_ediv_add_emod a t; have := Int.emod_nonneg a (show t ≠ 0 by omega); omega
theorem quo_hi (a : Int) {t : Int} (ht : 0 < t) : a < t * (a / t) + t := by
  have := Int.mul_ediv_add_emod a t; have := Int.emod_lt_of_pos a ht; omega
theorem mul_le {a b c : Int} (ha : 0 ≤ a) (h : b ≤ c) : a * b ≤ a * c := Int.mul_le_mul_of_nonneg_left h ha
def many (t : Tk) (x : Int) : Int := if x < t.d then 0 else (x - t.d) / t.t + 1
theorem many_lo {t : Tk} {x : Int} (h : x < t.d) : many t x = 0 := by unfold many; rw [if_pos h]
theorem many_hi {t : Tk} {x : Int} (h : t.d ≤ x) : many t x = (x - t.d) / t.t + 1 := by unfold many; rw [if_neg (by omega)]
/-- How many deadlines are not above x: n, if x lies between the n-th one and the next. -/
theorem many_eq {t : Tk} {x n : Int} (ht : 0 < t.t) (hn : 0 < n) (h1 : t.d + t.t * (n - 1) ≤ x) (h2 : x < t.d + t.t * n) : many t x = n := by
  have e1 : t.t * (n - 1) = t.t * n - t.t := by rw [Int.mul_sub, Int.mul_one]
  have h0 : 0 ≤ t.t * (n - 1) := Int.mul_nonneg (by omega) (by omega)
  rw [many_hi (by omega), quo_eq (q := n - 1) ht (by omega) (by omega)]; omega
theorem many_nonneg {t : Tk} {x : Int} (ht : 0 < t.t) : 0 ≤ many t x := by
  unfold many; split
  · omega
  · have := Int.ediv_nonneg (show 0 ≤ x - t.d by omega) (show 0 ≤ t.t by omega); omega
/-- The last deadline that counts, and the first one that doesn't. -/
theorem many_last {t : Tk} {x : Int} (ht : 0 < t.t) (h : t.d ≤ x) : t.d + t.t * (many t x - 1) ≤ x ∧ x < t.d + t.t * many t x ∧ 0 < many t x := by
  rw [many_hi h]
  have h1 := quo_lo (x - t.d) ht; have h2 := quo_hi (x - t.d) ht
  have h3 := Int.ediv_nonneg (show 0 ≤ x - t.d by omega) (show 0 ≤ t.t by omega)
  have e : t.t * ((x - t.d) / t.t + 1) = t.t * ((x - t.d) / t.t) + t.t := by rw [Int.mul_add, Int.mul_one]
  have e2 : (x - t.d) / t.t + 1 - 1 = (x - t.d) / t.t := by omega
  rw [e2, e]; omega
theorem many_next {t : Tk} {x : Int} (ht : 0 < t.t) : x < t.d + t.t * many t x := by
  by_cases h : t.d ≤ x
  · exact (many_last ht h).2.1
  · rw [many_lo (by omega)]; omega
theorem many_mono {t : Tk} {x y : Int} (ht : 0 < t.t) (h : x ≤ y) : many t x ≤ many t y := by
  by_cases hx : t.d ≤ x
  · rw [many_hi hx, many_hi (by omega)]; have := Int.ediv_le_ediv ht (show x - t.d ≤ y - t.d by omega); omega
  · rw [many_lo (by omega)]; exact many_nonneg ht
/-- A period later there is one deadline more. -/
theorem many_later {t : Tk} {x : Int} (hd : t.d ≤ t.t) (ht : 0 < t.t) (hx : 0 ≤ x) : many t (x + t.t) = many t x + 1 := by
  by_cases h : t.d ≤ x
  · rw [many_hi h, many_hi (by omega)]
    have e : x + t.t - t.d = (x - t.d) + 1 * t.t := by omega
    rw [e, Int.add_mul_ediv_right _ _ (by omega)]
  · rw [many_lo (x := x) (by omega), many_eq (n := 1) ht (by omega) (by simp; omega) (by simp; omega)]; omega
theorem work_le {t : Tk} {x : Int} (h : t.ok) (hx : 0 ≤ x) : 0 ≤ t.c * many t x ∧ t.c * many t x ≤ x + 2147483648 := by
  obtain ⟨_, _, h2, h3, h4, h5, _, _⟩ := h
  have hm := many_nonneg (t := t) (x := x) (by omega)
  refine ⟨Int.mul_nonneg (by omega) hm, ?_⟩
  by_cases hd : t.d ≤ x
  · obtain ⟨h6, _, _⟩ := many_last (t := t) (by omega) hd
    have e : t.t * (many t x - 1) = t.t * many t x - t.t := by rw [Int.mul_sub, Int.mul_one]
    have := Int.mul_le_mul_of_nonneg_right (show t.c ≤ t.t by omega) hm
    omega
  · rw [many_lo (by omega)]; omega
/-- The work of all. -/
def of : List Tk → Int → Int
  | [], _ => 0
  | t :: l, x => t.c * many t x + of l x
theorem of_append (l m : List Tk) (x : Int) : of (l ++ m) x = of l x + of m x := by
  induction l with
  | nil => simp [of]
  | cons t l ih => simp only [List.cons_append, of, ih]; omega
theorem of_nonneg {l : List Tk} {x : Int} (h : ∀ t ∈ l, t.ok) (hx : 0 ≤ x) : 0 ≤ of l x := by
  induction l with
  | nil => simp [of]
  | cons t l ih =>
    have h1 := (work_le (h t (by simp)) hx).1; have h2 := ih (fun s hs => h s (by simp [hs]))
    simp only [of]; omega
theorem of_le {l : List Tk} {x : Int} (h : ∀ t ∈ l, t.ok) (hx : 0 ≤ x) : of l x ≤ (l.length : Int) * (x + 2147483648) := by
  induction l with
  | nil => simp [of]
  | cons t l ih =>
    have h1 := (work_le (h t (by simp)) hx).2; have h2 := ih (fun s hs => h s (by simp [hs]))
    simp only [of, List.length_cons]
    have e : ((l.length + 1 : Nat) : Int) * (x + 2147483648) = (l.length : Int) * (x + 2147483648) + (x + 2147483648) := by
      rw [show ((l.length + 1 : Nat) : Int) = (l.length : Int) + 1 from by omega, Int.add_mul, Int.one_mul]
    omega
theorem of_mono {l : List Tk} {x y : Int} (h : ∀ t ∈ l, t.ok) (hxy : x ≤ y) : of l x ≤ of l y := by
  induction l with
  | nil => simp [of]
  | cons t l ih =>
    have h2 := ih (fun s hs => h s (by simp [hs])); obtain ⟨_, _, h5, h6, h7, _, _, _⟩ := h t (by simp)
    have h1 := mul_le (a := t.c) (by omega) (many_mono (t := t) (by omega) hxy)
    simp only [of]; omega
end Hm
