/- Plain facts: no work comes due ahead of the next deadline. -/
import Derived.Test.YtmgmpifbhjoijaaMDead

namespace Hm
set_option linter.unusedVariables false
set_option linter.unusedSimpArgs false
theorem of_zero {l : List Tk} (h : ∀ t ∈ l, t.ok) : of l 0 = 0 := by
 induction l with
 | nil => rfl
 | cons t l ih =>
  obtain ⟨_, _, h2, h3, h4, _⟩ := h t (by simp)
  simp only [of]
  rw [many_lo (show (0 : Int) < t.d by omega), ih (fun s hs => h s (by simp [hs]))]; simp
end Hm
