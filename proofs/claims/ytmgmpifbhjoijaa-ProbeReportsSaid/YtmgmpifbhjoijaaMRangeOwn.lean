/- Rows of one's own, and blocks that turn. -/
import Derived.Maps.AppendAt
import Derived.RangeFuncNested
import Derived.WalkKit
import Derived.OwnWalkIn

namespace Go.Proofs.PxR
open Go Go.RowKit
set_option linter.unusedVariables false
set_option linter.unusedSimpArgs false
theorem own_ne {W : World} {base e size n r : Nat} {v : Value} {xs : List Value} (h : W.ownsRow base e size v n xs) (hr : r < base ∨ ∃ o : Obj, W.heap[r]? = some o ∧ o.isCells = false) : v.ownBlock = none ∨ v.ownBlock ≠ some r := by
 rcases h.2 with ⟨rfl, _⟩ | ⟨g, cap, cur, rfl, hb, hg, _⟩
 ·exact .inl rfl
 ·refine .inr fun e' => ?_
  have : g = r := by simpa [Value.ownBlock] using e'
  subst this
  rcases hr with hr | ⟨o, ho, hc⟩
  ·omega
  ·rw [hg] at ho; cases ho; cases hc
theorem own_lt {W : World} {base e size n j : Nat} {v : Value} {xs : List Value} (h : W.ownsRow base e size v n xs) (ej : v.ownBlock = some j) : base ≤ j ∧ j < W.heap.size := by
 rcases h.2 with ⟨rfl, _⟩ | ⟨g, cap, cur, rfl, hb, hg, _⟩
 ·simp [Value.ownBlock] at ej
 ·have : g = j := by simpa [Value.ownBlock] using ej
  subst this; exact ⟨hb, (Array.getElem?_eq_some_iff.1 hg).1⟩
theorem own_far {W : World} {base e size n q : Nat} {v : Value} {xs : List Value} (h : W.ownsRow base e size v n xs) (hq : q < base ∨ W.heap.size ≤ q) : some q ≠ v.ownBlock := fun e' => by
 have := own_lt h e'.symm; omega
theorem own_below {W W' : World} {base e size n : Nat} {v : Value} {xs : List Value} (h : W.ownsRow base e size v n xs) (hb : Below W.heap.size W W') : W'.ownsRow base e size v n xs :=
 h.kept (row := none) ⟨hb.os, hb.tape, hb.output, hb.size, fun i hi _ => hb.block i hi⟩ (by cases v.ownBlock <;> simp)
end Go.Proofs.PxR
