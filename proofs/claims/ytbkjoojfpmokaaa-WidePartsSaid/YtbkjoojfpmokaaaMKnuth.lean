/- Plain facts on the division of a number of two words by one word, digit by digit. -/

namespace Hm
set_option linter.unusedVariables false
set_option linter.unusedSimpArgs false
/-- The guess is too great just if the test says so. -/
theorem kn_test {q r u t y1 y0 : Int} (hu : q * y1 + r = u) : q * y0 > 4294967296 * r + t ↔ q * (y1 * 4294967296 + y0) > u * 4294967296 + t := by
  have e : q * (y1 * 4294967296 + y0) = q * y1 * 4294967296 + q * y0 := by rw [Int.mul_add, Int.mul_assoc]
  rw [e]; omega
theorem kn_pos {v N : Int} (hv : 0 < v) (hN : 0 ≤ N) : 0 ≤ N / v ∧ N / v * v ≤ N ∧ N < N / v * v + v := by
  have h1 := Int.ediv_nonneg hN (show 0 ≤ v by omega)
  have h2 := Int.mul_ediv_self_le (x := N) (show v ≠ 0 by omega)
  have h3 := Int.lt_mul_ediv_self_add (x := N) hv
  rw [Int.mul_comm] at h2 h3
  exact ⟨h1, h2, h3⟩
theorem kn_gt {q v N : Int} (hv : 0 < v) : q * v > N ↔ q > N / v := by
  have h : N / v < q ↔ N < q * v := Int.ediv_lt_iff_lt_mul hv
  exact h.symm
/-- The first guess. -/
theorem kn_first {u t y1 y0 : Int} (h1 : 2147483648 ≤ y1) (h2 : y0 < 4294967296) (h0 : 0 ≤ y0) (hu0 : 0 ≤ u) (hu : u < y1 * 4294967296 + y0) (ht0 : 0 ≤ t) (ht : t < 4294967296) :
    (u * 4294967296 + t) / (y1 * 4294967296 + y0) ≤ u / y1 ∧ u / y1 ≤ 4294967297 ∧ 0 ≤ u - u / y1 * y1 ∧ u - u / y1 * y1 < y1 := by
  have hy : 0 < y1 := by omega
  have a := kn_pos hy hu0
  refine ⟨?_, ?_, by omega, by omega⟩
  · have hv : 0 < y1 * 4294967296 + y0 := by omega
    have b := kn_pos hv (show 0 ≤ u * 4294967296 + t by omega)
    generalize (u * 4294967296 + t) / (y1 * 4294967296 + y0) = Q at b ⊢
    rw [Int.le_ediv_iff_mul_le hy]
    have e : Q * (y1 * 4294967296 + y0) = Q * y1 * 4294967296 + Q * y0 := by rw [Int.mul_add, Int.mul_assoc]
    have := Int.mul_nonneg b.1 h0
    rw [e] at b
    omega
  · have : u / y1 < 4294967298 := by
      rw [Int.ediv_lt_iff_lt_mul hy]; omega
    omega
/-- The guess is right once what is left is a whole digit more. -/
theorem kn_stop {q r u t y1 y0 : Int} (hv : 0 < y1 * 4294967296 + y0) (hu : q * y1 + r = u) (hr : 4294967296 ≤ r) (h2 : y0 < 4294967296) (h0 : 0 ≤ y0) (hq0 : 0 ≤ q) (hq : q ≤ 4294967296) (ht0 : 0 ≤ t) :
    ¬ q > (u * 4294967296 + t) / (y1 * 4294967296 + y0) := by
  rw [← kn_gt hv, ← kn_test hu]
  have := Int.mul_le_mul hq (show y0 ≤ 4294967295 by omega) h0 (show (0 : Int) ≤ 4294967296 by omega)
  omega
theorem kn_digit {u t v : Int} (hv : 0 < v) (hu0 : 0 ≤ u) (hu : u < v) (ht0 : 0 ≤ t) (ht : t < 4294967296) : 0 ≤ (u * 4294967296 + t) / v ∧ (u * 4294967296 + t) / v < 4294967296 := by
  have a := kn_pos hv (show 0 ≤ u * 4294967296 + t by omega)
  refine ⟨a.1, ?_⟩
  rw [Int.ediv_lt_iff_lt_mul hv]; omega
/-- Two digits put together. -/
theorem kn_two {u t1 t0 v : Int} (hv : 0 < v) (hu0 : 0 ≤ u) (ht1 : 0 ≤ t1) (ht0 : 0 ≤ t0) :
    let Q1 := (u * 4294967296 + t1) / v
    let r1 := u * 4294967296 + t1 - Q1 * v
    let Q0 := (r1 * 4294967296 + t0) / v
    (u * 18446744073709551616 + t1 * 4294967296 + t0) / v = Q1 * 4294967296 + Q0 ∧ (u * 18446744073709551616 + t1 * 4294967296 + t0) % v = r1 * 4294967296 + t0 - Q0 * v := by
  intro Q1 r1 Q0
  have a := kn_pos hv (show 0 ≤ u * 4294967296 + t1 by omega)
  have b := kn_pos hv (show 0 ≤ r1 * 4294967296 + t0 by have : 0 ≤ r1 := by show 0 ≤ u * 4294967296 + t1 - Q1 * v; have : Q1 * v ≤ u * 4294967296 + t1 := a.2.1; omega
                                                        omega)
  have b1 : Q0 * v ≤ r1 * 4294967296 + t0 := b.2.1
  have b2 : r1 * 4294967296 + t0 < Q0 * v + v := b.2.2
  have er : r1 = u * 4294967296 + t1 - Q1 * v := rfl
  have e : (Q1 * 4294967296 + Q0) * v = Q1 * v * 4294967296 + Q0 * v := by rw [Int.add_mul, Int.mul_right_comm]
  have key : (u * 18446744073709551616 + t1 * 4294967296 + t0) / v = Q1 * 4294967296 + Q0 := by
    refine Int.le_antisymm ?_ ?_
    · have : (u * 18446744073709551616 + t1 * 4294967296 + t0) / v < Q1 * 4294967296 + Q0 + 1 := by
        rw [Int.ediv_lt_iff_lt_mul hv, Int.add_mul, Int.one_mul, e]; omega
      omega
    · rw [Int.le_ediv_iff_mul_le hv, e]; omega
  refine ⟨key, ?_⟩
  rw [Int.emod_def, key, Int.mul_comm v, e]; omega
/-- A shift on both sides. -/
theorem kn_shift {a y c : Int} (hc : 0 < c) : (a * c) / (y * c) = a / y ∧ (a * c) % (y * c) / c = a % y := by
  have h1 : (a * c) / (y * c) = a / y := Int.mul_ediv_mul_of_pos_left a y hc
  refine ⟨h1, ?_⟩
  rw [Int.emod_def, h1, Int.mul_right_comm y c (a / y), ← Int.sub_mul, Int.mul_ediv_cancel _ (by omega), Int.emod_def]
/-- The word that is shifted out above. -/
theorem kn_above {lo : Int} (s : Nat) (hs : s ≤ 64) : lo * 2 ^ s / 18446744073709551616 = lo / 2 ^ (64 - s) := by
  have e : (18446744073709551616 : Int) = 2 ^ (64 - s) * 2 ^ s := by
    rw [← Int.pow_add, show 64 - s + s = 64 by omega]; rfl
  rw [e]
  exact Int.mul_ediv_mul_of_pos_left lo (2 ^ (64 - s)) (Int.pow_pos (by omega))
theorem pow2_pos (n : Nat) : (0 : Int) < 2 ^ n := Int.pow_pos (by omega)
/-- How many bits a number has, read off above. -/
theorem bits_lift {x c : Int} {m a : Nat} (hc : c = 2 ^ a) (hm : 1 ≤ m) (h1 : (2 : Int) ^ (m - 1) ≤ x / c) (h2 : x / c < 2 ^ m) : (2 : Int) ^ (m + a - 1) ≤ x ∧ x < 2 ^ (m + a) := by
  have hp := pow2_pos a
  rw [hc] at h1 h2
  rw [Int.le_ediv_iff_mul_le hp, ← Int.pow_add] at h1
  rw [Int.ediv_lt_iff_lt_mul hp, ← Int.pow_add] at h2
  rw [show m + a - 1 = m - 1 + a by omega]
  exact ⟨h1, h2⟩
end Hm
