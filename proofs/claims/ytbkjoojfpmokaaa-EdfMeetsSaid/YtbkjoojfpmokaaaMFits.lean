/- Plain facts: work that fits ahead of a time at which all that was released is done fits at all times. -/
import Derived.Test.YtbkjoojfpmokaaaMDead2
import Derived.Test.YtbkjoojfpmokaaaMQpa

namespace Hm
set_option linter.unusedVariables false
set_option linter.unusedSimpArgs false
theorem fits_le {l : List Tk} (h : ∀ t ∈ l, t.ok) {L : Int} (hL : 1 ≤ L) (hw : work l L ≤ L) (hy : ∀ y, 1 ≤ y → y < L → of l y ≤ y) : ∀ (n : Nat) (x : Int), x.toNat ≤ n → 0 ≤ x → of l x ≤ x := by
  intro n
  induction n with
  | zero => intro x hn h0; have : x = 0 := by omega
            subst this; rw [of_zero h]; omega
  | succ n ih =>
    intro x hn h0
    by_cases h1 : x = 0
    · subst h1; rw [of_zero h]; omega
    by_cases h2 : x < L
    · exact hy x (by omega) h2
    · have a := of_split h (L := L) (x := x) (by omega)
      have b := ih (x - L) (by omega) (by omega)
      omega
end Hm
