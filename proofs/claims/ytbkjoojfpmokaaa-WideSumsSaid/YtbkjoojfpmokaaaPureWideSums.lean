/- WideSums, the plain part: numbers are reckoned as P1.1 says. -/
import Derived.Test.YtbkjoojfpmokaaaPWideSumsx7
import Derived.Test.YtbkjoojfpmokaaaMRangeX
import Derived.Test.YtbkjoojfpmokaaaMRangeOwn
import Derived.Test.YtbkjoojfpmokaaaMCarry
import Derived.Test.YtbkjoojfpmokaaaMBits

namespace Go.Proofs.Ytbkjoojfpmokaaa.Pure
open Go.RowKit Go.Proofs.Ytbkjoojfpmokaaa.PWideSums Go.Proofs.YtbkjoojfpmokaaaW.PrintWords Go.Proofs.YtbkjoojfpmokaaaW.PrintLast Go.Proofs.YtbkjoojfpmokaaaW.PrintMore
set_option linter.unusedVariables false
set_option linter.unusedSimpArgs false

theorem wf_u64 {a : Int} (h : (Lit.int .u64 a).wf = true) : 0 ≤ a ∧ a < 18446744073709551616 := by
  have : 0 ≤ a ∧ a ≤ 18446744073709551615 := by simpa [Lit.wf, IntKind.min, IntKind.max, IntKind.bits, IntKind.signed] using h
  omega

theorem w64 {n : Int} (h1 : -9223372036854775808 ≤ n) (h2 : n ≤ 9223372036854775807) : wrap64 n = n := by unfold wrap64; omega
theorem some_k {k : Nat} (h : 0 < k) : ∃ m, k = m + 1 := ⟨k - 1, by omega⟩
theorem tmod_rng (a : Int) {m : Int} (h : 0 < m) : -m < Int.tmod a m ∧ Int.tmod a m < m := by
  rcases Int.le_total 0 a with ha | ha
  · have h2 := Int.tmod_lt_of_pos a h; have h3 := Int.tmod_nonneg m ha; omega
  · have h2 := Int.tmod_lt_of_pos (-a) h; have h3 := Int.tmod_nonneg m (show 0 ≤ -a by omega)
    rw [Int.neg_tmod] at h2 h3; omega
theorem tmod_pos {a m : Int} (h : 0 < m) (ha : 0 ≤ a) : 0 ≤ Int.tmod a m ∧ Int.tmod a m < m := ⟨Int.tmod_nonneg m ha, Int.tmod_lt_of_pos a h⟩
theorem u64 (n : Int) : IntKind.u64.wrap n = n % 18446744073709551616 := by simp [IntKind.wrap, IntKind.bits, IntKind.signed]
theorem u64in {n : Int} (h1 : 0 ≤ n) (h2 : n < 18446744073709551616) : IntKind.u64.wrap n = n := by rw [u64]; omega

theorem mask32 {a : Int} (h1 : 0 ≤ a) (h2 : a < 18446744073709551616) : Go.bits .and .u64 a 4294967295 = a % 4294967296 := by
  rw [Go.u64_and a 4294967295 h1 h2 (by omega) (by omega)]
  have : a.toNat &&& (4294967295 : Int).toNat = a.toNat % 4294967296 := Nat.and_two_pow_sub_one_eq_mod a.toNat 32
  rw [this]; omega
theorem Mul64_is {a b : Int} (ha : 0 ≤ a) (ha2 : a < 18446744073709551616) (hb : 0 ≤ b) (hb2 : b < 18446744073709551616) : bits_Mul64.f a b = some (a * b / 18446744073709551616, a * b % 18446744073709551616) := by
  unfold bits_Mul64.f
  rw [mask32 ha ha2, mask32 hb hb2]
  obtain ⟨x1, hx1⟩ : ∃ x, a / 4294967296 = x := ⟨_, rfl⟩
  obtain ⟨x0, hx0⟩ : ∃ x, a % 4294967296 = x := ⟨_, rfl⟩
  obtain ⟨y1, hy1⟩ : ∃ x, b / 4294967296 = x := ⟨_, rfl⟩
  obtain ⟨y0, hy0⟩ : ∃ x, b % 4294967296 = x := ⟨_, rfl⟩
  rw [hx1, hx0, hy1, hy0]
  have ea : a = x1 * 4294967296 + x0 := by omega
  have eb : b = y1 * 4294967296 + y0 := by omega
  have bnd : ∀ u v : Int, 0 ≤ u → u ≤ 4294967295 → 0 ≤ v → v ≤ 4294967295 → 0 ≤ u * v ∧ u * v ≤ 18446744065119617025 := fun u v h1 h2 h3 h4 => by
    refine ⟨Int.mul_nonneg h1 h3, ?_⟩
    have := Int.mul_le_mul h2 h4 h3 (show (0 : Int) ≤ 4294967295 by omega)
    omega
  have p00 := bnd x0 y0 (by omega) (by omega) (by omega) (by omega)
  have p10 := bnd x1 y0 (by omega) (by omega) (by omega) (by omega)
  have p01 := bnd x0 y1 (by omega) (by omega) (by omega) (by omega)
  have p11 := bnd x1 y1 (by omega) (by omega) (by omega) (by omega)
  have e : a * b = x1 * y1 * 18446744073709551616 + (x1 * y0 + x0 * y1) * 4294967296 + x0 * y0 := by
    rw [ea, eb]
    simp only [Int.add_mul, Int.mul_add]
    have h1 : x1 * 4294967296 * (y1 * 4294967296) = x1 * y1 * 18446744073709551616 := by rw [Int.mul_assoc x1, ← Int.mul_assoc 4294967296 y1, Int.mul_comm 4294967296 y1, Int.mul_assoc y1, ← Int.mul_assoc x1]; rfl
    have h2 : x1 * 4294967296 * y0 = x1 * y0 * 4294967296 := Int.mul_right_comm _ _ _
    have h3 : x0 * (y1 * 4294967296) = x0 * y1 * 4294967296 := (Int.mul_assoc _ _ _).symm
    rw [h1, h2, h3]; omega
  rw [u64 (a * b), e]
  generalize x0 * y0 = P at *
  generalize x1 * y0 = Q at *
  generalize x0 * y1 = R at *
  generalize x1 * y1 = T at *
  clear ea eb bnd hx0 hx1 hy0 hy1
  rw [u64in (n := P) (by omega) (by omega), u64in (n := Q) (by omega) (by omega), u64in (n := Q + P / 4294967296) (by omega) (by omega), mask32 (by omega) (by omega), u64in (n := R) (by omega) (by omega), u64in (n := T) (by omega) (by omega), u64in (n := T + (Q + P / 4294967296) / 4294967296) (by omega) (by omega), u64in (n := (Q + P / 4294967296) % 4294967296 + R) (by omega) (by omega), u64in (by omega) (by omega)]
  congr 2
  omega
theorem Mul_is {a b : Int} (ha : 0 ≤ a) (ha2 : a < 18446744073709551616) (hb : 0 ≤ b) (hb2 : b < 18446744073709551616) : wide_Mul.f a b = some (a * b / 18446744073709551616, a * b % 18446744073709551616) := by
  unfold wide_Mul.f
  rw [Mul64_is ha ha2 hb hb2]; rfl
/-- -1, 0, 1. -/
def sgn3 (a b : Int) : Int := if a < b then -1 else if b < a then 1 else 0
theorem Compare_is (a b : Int) : cmp_Compare_uint64.f a b = some (sgn3 a b) := by
  unfold cmp_Compare_uint64.f cmp_isNaN_uint64.f sgn3
  simp only [Option.bind_some, bne_self_eq_false, Bool.false_eq_true, if_false]
  split
  · rfl
  · split <;> rfl
theorem Or_is (a b : Int) (k : Nat) (hk : 3 ≤ k) : cmp_Or_int.f k [a, b] = some (if a = 0 then b else a) := by
  obtain ⟨k, rfl⟩ : ∃ m, k = m + 3 := ⟨k - 3, by omega⟩
  unfold cmp_Or_int.f
  have e0 : rd [a, b] 0 = a := rfl
  have e1 : rd [a, b] 1 = b := rfl
  have w1 : wrap64 (0 + 1) = 1 := by unfold wrap64; omega
  have w2 : wrap64 (1 + 1) = 2 := by unfold wrap64; omega
  have hl : (([a, b] : List Int).length : Int) = 2 := rfl
  simp only [cmp_Or_int.l0, e0, e1, w1, w2, hl]
  rw [if_pos (by decide), if_pos (by decide), if_pos (by decide)]
  by_cases ha : a = 0
  · rw [if_pos ha, if_pos ha, if_pos (by decide), if_pos (by decide), if_pos (by decide)]
    by_cases hb : b = 0
    · rw [if_pos hb, if_neg (by decide), hb]
    · rw [if_neg hb]
  · rw [if_neg ha, if_neg ha]
/-- The sign of a comparison of numbers of 128 bits. -/
theorem Cmp_is {h1 l1 h2 l2 : Int} (k : Nat) (b1 : 0 ≤ l1) (b2 : l1 < 18446744073709551616) (b3 : 0 ≤ l2) (b4 : l2 < 18446744073709551616) (hk : 3 ≤ k) :
    wide_Cmp.f k h1 l1 h2 l2 = some (sgn3 (h1 * 18446744073709551616 + l1) (h2 * 18446744073709551616 + l2)) := by
  unfold wide_Cmp.f
  rw [Compare_is]; simp only [Option.bind_some]
  rw [Compare_is]; simp only [Option.bind_some]
  rw [Or_is _ _ k hk]; simp only [Option.bind_some]
  congr 1
  unfold sgn3
  split <;> split <;> (first | omega | (split <;> first | omega | (split <;> first | omega | (split <;> omega))))
theorem Less_is {a b c d : Int} (k : Nat) (ha : 0 ≤ a) (ha2 : a < 18446744073709551616) (hb : 0 ≤ b) (hb2 : b < 18446744073709551616) (hc : 0 ≤ c) (hc2 : c < 18446744073709551616) (hd : 0 ≤ d) (hd2 : d < 18446744073709551616) (hk : 3 ≤ k) :
    wide_Less.f k a b c d = some (decide (b ≠ 0 ∧ d ≠ 0 ∧ a * d < c * b)) := by
  unfold wide_Less.f
  by_cases h0 : b = 0
  · rw [if_pos h0]; simp [h0]
  · rw [if_neg h0]
    by_cases h1 : d = 0
    · rw [if_pos h1]; simp [h1]
    · rw [if_neg h1, Mul_is ha ha2 hd hd2]
      simp only [Option.bind_some]
      rw [Mul_is hc hc2 hb hb2]
      simp only [Option.bind_some]
      have n1 := Int.mul_nonneg ha hd
      have n2 := Int.mul_nonneg hc hb
      generalize a * d = p at *
      generalize c * b = q at *
      rw [Cmp_is k (by omega) (by omega) (by omega) (by omega) hk]
      simp only [Option.bind_some]
      congr 1
      rw [show p / 18446744073709551616 * 18446744073709551616 + p % 18446744073709551616 = p from by omega, show q / 18446744073709551616 * 18446744073709551616 + q % 18446744073709551616 = q from by omega]
      unfold sgn3
      rw [Bool.eq_iff_iff]
      simp only [decide_eq_true_eq]
      split
      · exact ⟨fun _ => ⟨h0, h1, by assumption⟩, fun _ => by omega⟩
      · constructor
        · intro h; split at h <;> omega
        · intro h; omega

theorem Of_is (n : Int) : wide_Of.f n = some (0, n) := rfl
theorem Add_is (u0 u1 v0 v1 : Int) (e1 : 0 ≤ u0) (e2 : u0 < 18446744073709551616) (e3 : 0 ≤ u1) (e4 : u1 < 18446744073709551616) (e5 : 0 ≤ v0) (e6 : v0 < 18446744073709551616) (e7 : 0 ≤ v1) (e8 : v1 < 18446744073709551616) : wide_Add.f u0 u1 v0 v1 = some (if (u0 + v0 + (u1 + v1) / 18446744073709551616) / 18446744073709551616 = 0 then ((u0 + v0 + (u1 + v1) / 18446744073709551616) % 18446744073709551616, (u1 + v1) % 18446744073709551616, true) else (0, 0, false)) := by
  unfold wide_Add.f
  rw [if_pos ⟨e1, e2, e3, e4, e5, e6, e7, e8⟩]; split <;> rfl
theorem mul_rng {a b : Int} (ha : 0 ≤ a) (ha2 : a < 18446744073709551616) (hb : 0 ≤ b) (hb2 : b < 18446744073709551616) : 0 ≤ a * b ∧ a * b ≤ 340282366920938463426481119284349108225 := by
  refine ⟨Int.mul_nonneg ha hb, ?_⟩
  have := Int.mul_le_mul (show a ≤ 18446744073709551615 by omega) (show b ≤ 18446744073709551615 by omega) hb (show (0 : Int) ≤ 18446744073709551615 by omega)
  omega

theorem Sub_is (u0 u1 v0 v1 : Int) (e1 : 0 ≤ u0) (e2 : u0 < 18446744073709551616) (e3 : 0 ≤ u1) (e4 : u1 < 18446744073709551616) (e5 : 0 ≤ v0) (e6 : v0 < 18446744073709551616) (e7 : 0 ≤ v1) (e8 : v1 < 18446744073709551616) : wide_Sub.f u0 u1 v0 v1 = some (if u0 * 18446744073709551616 + u1 < v0 * 18446744073709551616 + v1 then (0, 0, false) else ((u0 - v0 - PxC.bor u1 v1) % 18446744073709551616, (u1 - v1) % 18446744073709551616, true)) := by
  unfold wide_Sub.f
  rw [if_pos ⟨e1, e2, e3, e4, e5, e6, e7, e8⟩]
  by_cases c : u0 * 18446744073709551616 + u1 < v0 * 18446744073709551616 + v1
  · rw [if_pos c, if_neg]
    unfold PxC.bor; split <;> split <;> omega
  · rw [if_neg c, if_pos]
    unfold PxC.bor; split <;> split <;> omega

theorem awake_is : ∀ k, 120 ≤ k → horariumlaw01_awake.f k = some true := by
  have h : horariumlaw01_awake.f 120 = some true := by decide +kernel
  intro k hk
  exact at_rounds (horariumlaw01_awake.mono) hk h

theorem cmpI_is (x y : Int) : sgn3 x y = cmpI x y := rfl
theorem WideSums : horariumlaw01_WideSums.Pure := by
  intro a0 a1 b0 b1 x y ha0 ha1 hb0 hb1 hx hy
  have h1 := wf_u64 ha0
  have h2 := wf_u64 ha1
  have h3 := wf_u64 hb0
  have h4 := wf_u64 hb1
  have h5 := wf_u64 hx
  have h6 := wf_u64 hy
  refine ⟨120, ?_⟩
  unfold horariumlaw01_WideSums.f
  rw [awake_is 120 (by omega), Add_is a0 a1 b0 b1 h1.1 h1.2 h2.1 h2.2 h3.1 h3.2 h4.1 h4.2, Sub_is a0 a1 b0 b1 h1.1 h1.2 h2.1 h2.2 h3.1 h3.2 h4.1 h4.2, Cmp_is 120 h2.1 h2.2 h4.1 h4.2 (by omega), Mul_is h5.1 h5.2 h6.1 h6.2, Of_is]
  simp only [Option.bind_some]
  have e1 : horariumref01_Add.f a0 a1 b0 b1 = some (if (a0 + b0 + (a1 + b1) / 18446744073709551616) / 18446744073709551616 = 0 then ((a0 + b0 + (a1 + b1) / 18446744073709551616) % 18446744073709551616, (a1 + b1) % 18446744073709551616, true) else (0, 0, false)) := by
    unfold horariumref01_Add.f
    rw [if_pos ⟨h1.1, h1.2, h2.1, h2.2, h3.1, h3.2, h4.1, h4.2⟩]
    unfold backI
    by_cases c : (a0 + b0 + (a1 + b1) / 18446744073709551616) / 18446744073709551616 = 0
    · rw [if_pos c, if_pos (by omega)]
      congr 1
      refine Prod.ext ?_ (Prod.ext ?_ rfl) <;> simp only <;> omega
    · rw [if_neg c, if_neg (by omega)]
  have e2 : horariumref01_Sub.f a0 a1 b0 b1 = some (if a0 * 18446744073709551616 + a1 < b0 * 18446744073709551616 + b1 then (0, 0, false) else ((a0 - b0 - PxC.bor a1 b1) % 18446744073709551616, (a1 - b1) % 18446744073709551616, true)) := by
    unfold horariumref01_Sub.f
    rw [if_pos ⟨h1.1, h1.2, h2.1, h2.2, h3.1, h3.2, h4.1, h4.2⟩]
    by_cases c : a0 * 18446744073709551616 + a1 < b0 * 18446744073709551616 + b1
    · rw [if_pos c, if_pos c]
    · rw [if_neg c, if_neg c]
      unfold backI PxC.bor
      rw [if_pos (by omega)]
      congr 1
      refine Prod.ext ?_ (Prod.ext ?_ rfl) <;> simp only <;> (try split) <;> omega
  have e3 : horariumref01_Cmp.f a0 a1 b0 b1 = some (cmpI (a0 * 18446744073709551616 + a1) (b0 * 18446744073709551616 + b1)) := by
    unfold horariumref01_Cmp.f
    rw [if_pos ⟨h1.1, h1.2, h2.1, h2.2, h3.1, h3.2, h4.1, h4.2⟩]
  have e4 : horariumref01_Mul.f x y = some (x * y / 18446744073709551616, x * y % 18446744073709551616) := by
    unfold horariumref01_Mul.f
    rw [if_pos ⟨h5.1, h5.2, h6.1, h6.2⟩]
  rw [e1, e2, e3, e4]
  simp only [Option.bind_some]
  rw [cmpI_is]
  simp
end Go.Proofs.Ytbkjoojfpmokaaa.Pure
