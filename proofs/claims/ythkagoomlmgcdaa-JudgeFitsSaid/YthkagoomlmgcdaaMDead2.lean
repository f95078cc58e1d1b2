/- Plain facts: no work comes due ahead of the next deadline. -/
import Derived.Test.YthkagoomlmgcdaaMDead

namespace Hm
set_option linter.unusedVariables false
set_option linter.unusedSimpArgs false
theorem of_zero {l : List Tk} (h : ∀ t ∈ l, t.ok) : of l 0 = 0 := by
  induction l with
  | nil => rfl
  | cons t l ih =>
    obtain ⟨_, _, h2, h3, h4, _⟩ := h t (by simp)
    simp only [of]
    rw [many_lo (show (0 : Int) < t.d by omega), ih (fun s hs => h s (by simp [hs]))]; simp
theorem of_const {l : List Tk} (hok : ∀ t ∈ l, t.ok) {y t : Int} (hyt : y ≤ t) (h : t < next l y) : of l t = of l y := by
  have h1 := of_mono hok hyt
  by_cases hlt : of l y < of l t
  · obtain ⟨s, hs, hm⟩ := (of_lt_iff hok hyt).1 hlt
    obtain ⟨_, _, h2, h3, h4, h5, _, _⟩ := hok s hs
    have hn := many_nonneg (t := s) (x := y) (by omega)
    have h6 : ¬ t < s.d + s.t * many s y := fun hh => by have := (many_le_iff (t := s) (x := t) (by omega) hn).2 hh; omega
    have h7 := next_le hs y
    unfold due at h7
    omega
  · omega
end Hm
