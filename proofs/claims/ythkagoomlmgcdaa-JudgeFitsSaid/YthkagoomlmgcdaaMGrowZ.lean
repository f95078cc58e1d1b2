/- append onto the nil slice of so many zero values (slices.Grow): what it comes to. After the library's law for append of make. -/
import Derived.Lib.AppendZerosOnto
import Derived.Laws.AppendOwn
import Derived.WalkKit

namespace Go.Proofs.PxG
open Go Go.RowKit
set_option linter.unusedVariables false
set_option linter.unusedSimpArgs false
theorem grow_run {P : Program} (w : World) (t tn ty e : TypeId) (i : TypeInfo) (z : Value) (kn : IntKind) (ht : P.underlying t = some (.slice e)) (htn : P.underlying tn = some (.int kn)) (hi : P.info? e = some i) (hz : i.zero = some z)
    (k : Nat) (h0 : 0 < k) (hs : 0 < i.size) (hb : k * i.bytes ≤ 140737488355328) (h63 : k ≤ 4611686018427387904) :
    ∃ G, k ≤ G ∧ G ≤ maxLen ∧ (Builtin.append_ #[t, tn] ty #[.slice none 0 0, .int .i64 (k : Int)]).run P w = .ok (.slice (some ⟨w.heap.size, 0, none⟩) k G) (w.drew.alloc (.cells (Builtin.zeroCells z.cells k ++ Builtin.zeroCells z.cells (G - k)) e)) := by
  have h := Lib.run_append_grow_zeros w t tn ty e i z .i64 kn ht htn hi hz none 0 0 [] (run_firstCells_none w.drew i.size 0 0 0) k h0 hs (by omega) (by omega) (by omega) (by rw [Nat.zero_add]; exact growslice_fits h0 hb)
  refine ⟨grownCap w k 0 e, grownCap_ge w k 0 e, grownCap_le_maxLen w k 0 e (by unfold maxLen; omega), ?_⟩
  rw [h, Nat.zero_add]
  simp
end Go.Proofs.PxG
