/- Plain facts on deadlines: the next one behind a time, the last one ahead of it. -/
import Derived.Test.YthkagoomlmgcdaaMDem

namespace Hm
set_option linter.unusedVariables false
set_option linter.unusedSimpArgs false
theorem many_le_iff {t : Tk} {x n : Int} (ht : 0 < t.t) (hn : 0 ≤ n) : many t x ≤ n ↔ x < t.d + t.t * n := by
  constructor
  · intro h
    have h1 := many_next (t := t) (x := x) ht
    have h2 := mul_le (a := t.t) (by omega) h
    omega
  · intro h
    by_cases hd : t.d ≤ x
    · obtain ⟨h1, _, h3⟩ := many_last (t := t) ht hd
      by_cases hc : many t x ≤ n
      · exact hc
      · have h4 := mul_le (a := t.t) (by omega) (show n ≤ many t x - 1 by omega)
        omega
    · rw [many_lo (by omega)]; exact hn
/-- The next deadline of a task. -/
def due (t : Tk) (x : Int) : Int := t.d + t.t * many t x
theorem due_gt {t : Tk} {x : Int} (ht : 0 < t.t) : x < due t x := many_next ht
theorem due_le {t : Tk} {x : Int} (h : t.ok) (hx : 0 ≤ x) : due t x ≤ x + t.t := by
  obtain ⟨_, _, h2, h3, h4, h5, _, _⟩ := h
  unfold due
  by_cases hd : t.d ≤ x
  · obtain ⟨h1, _, _⟩ := many_last (t := t) (x := x) (by omega) hd
    have e1 : t.t * (many t x - 1) = t.t * many t x - t.t := by rw [Int.mul_sub, Int.mul_one]
    omega
  · rw [many_lo (by omega)]; omega
def minL : Int → List Int → Int
  | m, [] => m
  | m, x :: l => minL (if x < m then x else m) l
theorem minL_le (m : Int) (l : List Int) : minL m l ≤ m := by
  induction l generalizing m with
  | nil => simp [minL]
  | cons x l ih => have := ih (if x < m then x else m); simp only [minL]; split at this <;> split <;> omega
theorem minL_mem (m : Int) (l : List Int) : minL m l = m ∨ minL m l ∈ l := by
  induction l generalizing m with
  | nil => exact Or.inl rfl
  | cons x l ih =>
    simp only [minL]
    rcases ih (if x < m then x else m) with h | h
    · by_cases hx : x < m
      · rw [if_pos hx] at h ⊢; exact Or.inr (by rw [h]; simp)
      · rw [if_neg hx] at h ⊢; exact Or.inl h
    · exact Or.inr (by simp [h])
theorem minL_le_mem {m : Int} {l : List Int} {x : Int} (h : x ∈ l) : minL m l ≤ x := by
  induction l generalizing m with
  | nil => cases h
  | cons y l ih =>
    simp only [minL]
    rcases List.mem_cons.1 h with rfl | h
    · have := minL_le (if x < m then x else m) l; split at this <;> split <;> omega
    · exact ih h
/-- The next deadline of any task. -/
def next (l : List Tk) (x : Int) : Int :=
  match l with
  | [] => 0
  | t :: r => minL (due t x) ((t :: r).map fun s => due s x)
theorem next_mem {l : List Tk} (h : l ≠ []) (x : Int) : ∃ t ∈ l, next l x = due t x := by
  match l, h with
  | t :: r, _ =>
    rcases minL_mem (due t x) ((t :: r).map fun s => due s x) with h | h
    · exact ⟨t, by simp, h⟩
    · obtain ⟨s, hs, e⟩ := List.mem_map.1 h
      exact ⟨s, hs, e.symm⟩
theorem next_le {l : List Tk} {t : Tk} (h : t ∈ l) (x : Int) : next l x ≤ due t x := by
  match l, h with
  | s :: r, h => exact minL_le_mem (List.mem_map.2 ⟨t, h, rfl⟩)
theorem next_gt {l : List Tk} (h : l ≠ []) (hok : ∀ t ∈ l, t.ok) (x : Int) : x < next l x := by
  obtain ⟨t, ht, e⟩ := next_mem h x
  obtain ⟨_, _, h2, h3, h4, h5, _, _⟩ := hok t ht
  rw [e]; exact due_gt (by omega)
/-- The last deadline of a task ahead of a time, where there is one. -/
def last (t : Tk) (x : Int) : Int := t.d + t.t * (many t (x - 1) - 1)
theorem last_lt {t : Tk} {x : Int} (ht : 0 < t.t) (h : 0 < many t (x - 1)) : t.d ≤ last t x ∧ last t x < x := by
  have hd : t.d ≤ x - 1 := by
    by_cases hd : t.d ≤ x - 1
    · exact hd
    · rw [many_lo (by omega)] at h; omega
  obtain ⟨h1, _, _⟩ := many_last (t := t) ht hd
  have := Int.mul_nonneg (show 0 ≤ t.t by omega) (show 0 ≤ many t (x - 1) - 1 by omega)
  unfold last; omega
def bef : Int → List Tk → Int → Int
  | m, [], _ => m
  | m, t :: l, x => bef (if 0 < many t (x - 1) then (if m < last t x then last t x else m) else m) l x
theorem bef_ge (m : Int) (l : List Tk) (x : Int) : m ≤ bef m l x := by
  induction l generalizing m with
  | nil => simp [bef]
  | cons t l ih =>
    simp only [bef]
    refine Int.le_trans ?_ (ih _)
    split
    · split <;> omega
    · omega
theorem bef_ge_mem {m : Int} {l : List Tk} {x : Int} {t : Tk} (h : t ∈ l) (ht : 0 < many t (x - 1)) : last t x ≤ bef m l x := by
  induction l generalizing m with
  | nil => cases h
  | cons s l ih =>
    simp only [bef]
    rcases List.mem_cons.1 h with rfl | h
    · have := bef_ge (if 0 < many t (x - 1) then (if m < last t x then last t x else m) else m) l x
      rw [if_pos ht] at this ⊢
      split at this <;> split <;> omega
    · exact ih h
theorem bef_mem (m : Int) (l : List Tk) (x : Int) : bef m l x = m ∨ ∃ t ∈ l, 0 < many t (x - 1) ∧ bef m l x = last t x := by
  induction l generalizing m with
  | nil => exact Or.inl rfl
  | cons t l ih =>
    simp only [bef]
    rcases ih (if 0 < many t (x - 1) then (if m < last t x then last t x else m) else m) with h | ⟨s, hs, h1, h2⟩
    · by_cases hm : 0 < many t (x - 1)
      · rw [if_pos hm] at h ⊢
        by_cases hl : m < last t x
        · rw [if_pos hl] at h ⊢; exact Or.inr ⟨t, by simp, hm, h⟩
        · rw [if_neg hl] at h ⊢; exact Or.inl h
      · rw [if_neg hm] at h ⊢; exact Or.inl h
    · exact Or.inr ⟨s, by simp [hs], h1, h2⟩
/-- The last deadline of any task ahead of a time; 0 where there is none. -/
def before (l : List Tk) (x : Int) : Int := bef 0 l x
theorem of_lt_iff {l : List Tk} (h : ∀ t ∈ l, t.ok) {a b : Int} (hab : a ≤ b) : of l a < of l b ↔ ∃ t ∈ l, many t a < many t b := by
  induction l with
  | nil => simp [of]
  | cons t l ih =>
    have ih := ih (fun s hs => h s (by simp [hs]))
    have hm := of_mono (l := l) (fun s hs => h s (by simp [hs])) hab
    obtain ⟨_, _, h2, h3, h4, h5, _, _⟩ := h t (by simp)
    have hmt := many_mono (t := t) (by omega) hab
    have hmul := mul_le (a := t.c) (by omega) hmt
    simp only [of, List.mem_cons, exists_eq_or_imp]
    constructor
    · intro hlt
      by_cases hc : many t a < many t b
      · exact Or.inl hc
      · have e : many t a = many t b := by omega
        rw [e] at hlt
        exact Or.inr (ih.1 (by omega))
    · rintro (hc | hc)
      · have := Int.mul_lt_mul_of_pos_left hc (show 0 < t.c by omega); omega
      · have := ih.2 hc; omega
end Hm
