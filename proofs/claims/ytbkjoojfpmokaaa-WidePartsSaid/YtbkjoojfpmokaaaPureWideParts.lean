/- WideParts, the plain part: parts are compared, divided and written as P1.2 and P1.3 say. -/
import Derived.Test.YtbkjoojfpmokaaaPWidePartsx7
import Derived.Test.YtbkjoojfpmokaaaMRangeX
import Derived.Test.YtbkjoojfpmokaaaMRangeOwn
import Derived.Test.YtbkjoojfpmokaaaMBits
import Derived.Test.YtbkjoojfpmokaaaMDigits
import Derived.Test.YtbkjoojfpmokaaaMKnuth

namespace Go.Proofs.Ytbkjoojfpmokaaa.Pure
open Go.RowKit Go.Proofs.Ytbkjoojfpmokaaa.PWideParts Go.Proofs.YtbkjoojfpmokaaaW.PrintWords Go.Proofs.YtbkjoojfpmokaaaW.PrintLast Go.Proofs.YtbkjoojfpmokaaaW.PrintMore
set_option linter.unusedVariables false
set_option linter.unusedSimpArgs false

theorem wf_u64 {a : Int} (h : (Lit.int .u64 a).wf = true) : 0 ≤ a ∧ a < 18446744073709551616 := by
  have : 0 ≤ a ∧ a ≤ 18446744073709551615 := by simpa [Lit.wf, IntKind.min, IntKind.max, IntKind.bits, IntKind.signed] using h
  omega

theorem w64 {n : Int} (h1 : -9223372036854775808 ≤ n) (h2 : n ≤ 9223372036854775807) : wrap64 n = n := by unfold wrap64; omega
theorem some_k {k : Nat} (h : 0 < k) : ∃ m, k = m + 1 := ⟨k - 1, by omega⟩
theorem tmod_rng (a : Int) {m : Int} (h : 0 < m) : -m < Int.tmod a m ∧ Int.tmod a m < m := by
  rcases Int.le_total 0 a with ha | ha
  · have h2 := Int.tmod_lt_of_pos a h; have h3 := Int.tmod_nonneg m ha; omega
  · have h2 := Int.tmod_lt_of_pos (-a) h; have h3 := Int.tmod_nonneg m (show 0 ≤ -a by omega)
    rw [Int.neg_tmod] at h2 h3; omega
theorem tmod_pos {a m : Int} (h : 0 < m) (ha : 0 ≤ a) : 0 ≤ Int.tmod a m ∧ Int.tmod a m < m := ⟨Int.tmod_nonneg m ha, Int.tmod_lt_of_pos a h⟩
theorem u64 (n : Int) : IntKind.u64.wrap n = n % 18446744073709551616 := by simp [IntKind.wrap, IntKind.bits, IntKind.signed]
theorem u64in {n : Int} (h1 : 0 ≤ n) (h2 : n < 18446744073709551616) : IntKind.u64.wrap n = n := by rw [u64]; omega

theorem mask32 {a : Int} (h1 : 0 ≤ a) (h2 : a < 18446744073709551616) : Go.bits .and .u64 a 4294967295 = a % 4294967296 := by
  rw [Go.u64_and a 4294967295 h1 h2 (by omega) (by omega)]
  have : a.toNat &&& (4294967295 : Int).toNat = a.toNat % 4294967296 := Nat.and_two_pow_sub_one_eq_mod a.toNat 32
  rw [this]; omega
theorem Mul64_is {a b : Int} (ha : 0 ≤ a) (ha2 : a < 18446744073709551616) (hb : 0 ≤ b) (hb2 : b < 18446744073709551616) : bits_Mul64.f a b = some (a * b / 18446744073709551616, a * b % 18446744073709551616) := by
  unfold bits_Mul64.f
  rw [mask32 ha ha2, mask32 hb hb2]
  obtain ⟨x1, hx1⟩ : ∃ x, a / 4294967296 = x := ⟨_, rfl⟩
  obtain ⟨x0, hx0⟩ : ∃ x, a % 4294967296 = x := ⟨_, rfl⟩
  obtain ⟨y1, hy1⟩ : ∃ x, b / 4294967296 = x := ⟨_, rfl⟩
  obtain ⟨y0, hy0⟩ : ∃ x, b % 4294967296 = x := ⟨_, rfl⟩
  rw [hx1, hx0, hy1, hy0]
  have ea : a = x1 * 4294967296 + x0 := by omega
  have eb : b = y1 * 4294967296 + y0 := by omega
  have bnd : ∀ u v : Int, 0 ≤ u → u ≤ 4294967295 → 0 ≤ v → v ≤ 4294967295 → 0 ≤ u * v ∧ u * v ≤ 18446744065119617025 := fun u v h1 h2 h3 h4 => by
    refine ⟨Int.mul_nonneg h1 h3, ?_⟩
    have := Int.mul_le_mul h2 h4 h3 (show (0 : Int) ≤ 4294967295 by omega)
    omega
  have p00 := bnd x0 y0 (by omega) (by omega) (by omega) (by omega)
  have p10 := bnd x1 y0 (by omega) (by omega) (by omega) (by omega)
  have p01 := bnd x0 y1 (by omega) (by omega) (by omega) (by omega)
  have p11 := bnd x1 y1 (by omega) (by omega) (by omega) (by omega)
  have e : a * b = x1 * y1 * 18446744073709551616 + (x1 * y0 + x0 * y1) * 4294967296 + x0 * y0 := by
    rw [ea, eb]
    simp only [Int.add_mul, Int.mul_add]
    have h1 : x1 * 4294967296 * (y1 * 4294967296) = x1 * y1 * 18446744073709551616 := by rw [Int.mul_assoc x1, ← Int.mul_assoc 4294967296 y1, Int.mul_comm 4294967296 y1, Int.mul_assoc y1, ← Int.mul_assoc x1]; rfl
    have h2 : x1 * 4294967296 * y0 = x1 * y0 * 4294967296 := Int.mul_right_comm _ _ _
    have h3 : x0 * (y1 * 4294967296) = x0 * y1 * 4294967296 := (Int.mul_assoc _ _ _).symm
    rw [h1, h2, h3]; omega
  rw [u64 (a * b), e]
  generalize x0 * y0 = P at *
  generalize x1 * y0 = Q at *
  generalize x0 * y1 = R at *
  generalize x1 * y1 = T at *
  clear ea eb bnd hx0 hx1 hy0 hy1
  rw [u64in (n := P) (by omega) (by omega), u64in (n := Q) (by omega) (by omega), u64in (n := Q + P / 4294967296) (by omega) (by omega), mask32 (by omega) (by omega), u64in (n := R) (by omega) (by omega), u64in (n := T) (by omega) (by omega), u64in (n := T + (Q + P / 4294967296) / 4294967296) (by omega) (by omega), u64in (n := (Q + P / 4294967296) % 4294967296 + R) (by omega) (by omega), u64in (by omega) (by omega)]
  congr 2
  omega
theorem Mul_is {a b : Int} (ha : 0 ≤ a) (ha2 : a < 18446744073709551616) (hb : 0 ≤ b) (hb2 : b < 18446744073709551616) : wide_Mul.f a b = some (a * b / 18446744073709551616, a * b % 18446744073709551616) := by
  unfold wide_Mul.f
  rw [Mul64_is ha ha2 hb hb2]; rfl
/-- -1, 0, 1. -/
def sgn3 (a b : Int) : Int := if a < b then -1 else if b < a then 1 else 0
theorem Compare_is (a b : Int) : cmp_Compare_uint64.f a b = some (sgn3 a b) := by
  unfold cmp_Compare_uint64.f cmp_isNaN_uint64.f sgn3
  simp only [Option.bind_some, bne_self_eq_false, Bool.false_eq_true, if_false]
  split
  · rfl
  · split <;> rfl
theorem Or_is (a b : Int) (k : Nat) (hk : 3 ≤ k) : cmp_Or_int.f k [a, b] = some (if a = 0 then b else a) := by
  obtain ⟨k, rfl⟩ : ∃ m, k = m + 3 := ⟨k - 3, by omega⟩
  unfold cmp_Or_int.f
  have e0 : rd [a, b] 0 = a := rfl
  have e1 : rd [a, b] 1 = b := rfl
  have w1 : wrap64 (0 + 1) = 1 := by unfold wrap64; omega
  have w2 : wrap64 (1 + 1) = 2 := by unfold wrap64; omega
  have hl : (([a, b] : List Int).length : Int) = 2 := rfl
  simp only [cmp_Or_int.l0, e0, e1, w1, w2, hl]
  rw [if_pos (by decide), if_pos (by decide), if_pos (by decide)]
  by_cases ha : a = 0
  · rw [if_pos ha, if_pos ha, if_pos (by decide), if_pos (by decide), if_pos (by decide)]
    by_cases hb : b = 0
    · rw [if_pos hb, if_neg (by decide), hb]
    · rw [if_neg hb]
  · rw [if_neg ha, if_neg ha]
/-- The sign of a comparison of numbers of 128 bits. -/
theorem Cmp_is {h1 l1 h2 l2 : Int} (k : Nat) (b1 : 0 ≤ l1) (b2 : l1 < 18446744073709551616) (b3 : 0 ≤ l2) (b4 : l2 < 18446744073709551616) (hk : 3 ≤ k) :
    wide_Cmp.f k h1 l1 h2 l2 = some (sgn3 (h1 * 18446744073709551616 + l1) (h2 * 18446744073709551616 + l2)) := by
  unfold wide_Cmp.f
  rw [Compare_is]; simp only [Option.bind_some]
  rw [Compare_is]; simp only [Option.bind_some]
  rw [Or_is _ _ k hk]; simp only [Option.bind_some]
  congr 1
  unfold sgn3
  split <;> split <;> (first | omega | (split <;> first | omega | (split <;> first | omega | (split <;> omega))))
theorem Less_is {a b c d : Int} (k : Nat) (ha : 0 ≤ a) (ha2 : a < 18446744073709551616) (hb : 0 ≤ b) (hb2 : b < 18446744073709551616) (hc : 0 ≤ c) (hc2 : c < 18446744073709551616) (hd : 0 ≤ d) (hd2 : d < 18446744073709551616) (hk : 3 ≤ k) :
    wide_Less.f k a b c d = some (decide (b ≠ 0 ∧ d ≠ 0 ∧ a * d < c * b)) := by
  unfold wide_Less.f
  by_cases h0 : b = 0
  · rw [if_pos h0]; simp [h0]
  · rw [if_neg h0]
    by_cases h1 : d = 0
    · rw [if_pos h1]; simp [h1]
    · rw [if_neg h1, Mul_is ha ha2 hd hd2]
      simp only [Option.bind_some]
      rw [Mul_is hc hc2 hb hb2]
      simp only [Option.bind_some]
      have n1 := Int.mul_nonneg ha hd
      have n2 := Int.mul_nonneg hc hb
      generalize a * d = p at *
      generalize c * b = q at *
      rw [Cmp_is k (by omega) (by omega) (by omega) (by omega) hk]
      simp only [Option.bind_some]
      congr 1
      rw [show p / 18446744073709551616 * 18446744073709551616 + p % 18446744073709551616 = p from by omega, show q / 18446744073709551616 * 18446744073709551616 + q % 18446744073709551616 = q from by omega]
      unfold sgn3
      rw [Bool.eq_iff_iff]
      simp only [decide_eq_true_eq]
      split
      · exact ⟨fun _ => ⟨h0, h1, by assumption⟩, fun _ => by omega⟩
      · constructor
        · intro h; split at h <;> omega
        · intro h; omega

theorem Len64_is {x : Int} (k : Nat) (h0 : 0 < x) (h1 : x < 18446744073709551616) (hk : 1 ≤ k) : ∃ n : Nat, bits_Len64.f k x = some (n : Int) ∧ 1 ≤ n ∧ n ≤ 64 ∧ (2 : Int) ^ (n - 1) ≤ x ∧ x < 2 ^ n := by
  obtain ⟨k, rfl⟩ := some_k (show 0 < k by omega)
  have low : ∀ (y base : Int), 0 < y → y < 4294967296 → 0 ≤ base → base ≤ 32 → ∃ m : Nat, bits_Len64.j0 (k + 1) y base = some ((m : Int) + base) ∧ 1 ≤ m ∧ m ≤ 32 ∧ (2 : Int) ^ (m - 1) ≤ y ∧ y < 2 ^ m := by
    intro y base hy0 hy1 hb0 hb1
    unfold bits_Len64.j0
    generalize hT : ByteArray.mk _ = T
    dsimp only
    have tab : ∀ i : Fin 256, 0 < i.val → 1 ≤ (bt T (i.val : Int)).toNat ∧ (bt T (i.val : Int)).toNat ≤ 8 ∧ 0 ≤ bt T (i.val : Int) ∧ 2 ^ ((bt T (i.val : Int)).toNat - 1) ≤ i.val ∧ i.val < 2 ^ (bt T (i.val : Int)).toNat := by
      rw [← hT]; decide +kernel
    have tabI : ∀ z : Int, 0 < z → z < 256 → ∃ m : Nat, bt T (z % 256) = (m : Int) ∧ 1 ≤ m ∧ m ≤ 8 ∧ (2 : Int) ^ (m - 1) ≤ z ∧ z < 2 ^ m := by
      intro z hz0 hz1
      obtain ⟨h1, h2, h3, h4, h5⟩ := tab ⟨z.toNat, by omega⟩ (by show 0 < z.toNat; omega)
      have ez : ((z.toNat : Nat) : Int) = z % 256 := by omega
      simp only [ez] at h1 h2 h3 h4 h5
      refine ⟨(bt T (z % 256)).toNat, by omega, h1, h2, ?_, ?_⟩
      · have := Int.ofNat_le.2 h4
        rw [Int.natCast_pow] at this
        have e : ((z.toNat : Nat) : Int) = z := by omega
        rw [e] at this; exact this
      · have := Int.ofNat_lt.2 h5
        rw [Int.natCast_pow] at this
        have e : ((z.toNat : Nat) : Int) = z := by omega
        rw [e] at this; exact this
    clear tab hT
    by_cases c1 : y ≥ 65536
    · rw [if_pos c1]
      by_cases c2 : y / 65536 ≥ 256
      · rw [if_pos c2, if_pos (by omega), if_pos (by omega)]
        obtain ⟨m, e1, e2, e3, e4, e5⟩ := tabI (y / 65536 / 256) (by omega) (by omega)
        obtain ⟨f1, f2⟩ := Hm.bits_lift (a := 8) (c := 256) rfl e2 e4 e5
        obtain ⟨g1, g2⟩ := Hm.bits_lift (a := 16) (c := 65536) rfl (by omega) f1 f2
        refine ⟨m + 8 + 16, ?_, by omega, by omega, g1, g2⟩
        rw [e1, w64 (n := (m : Int)) (by omega) (by omega), w64 (n := base + 16) (by omega) (by omega), w64 (n := base + 16 + 8) (by omega) (by omega), w64 (by omega) (by omega)]
        congr 1; omega
      · rw [if_neg c2, if_pos (by omega), if_pos (by omega)]
        obtain ⟨m, e1, e2, e3, e4, e5⟩ := tabI (y / 65536) (by omega) (by omega)
        obtain ⟨g1, g2⟩ := Hm.bits_lift (a := 16) (c := 65536) rfl e2 e4 e5
        refine ⟨m + 16, ?_, by omega, by omega, g1, g2⟩
        rw [e1, w64 (n := (m : Int)) (by omega) (by omega), w64 (n := base + 16) (by omega) (by omega), w64 (by omega) (by omega)]
        congr 1; omega
    · rw [if_neg c1]
      by_cases c2 : y ≥ 256
      · rw [if_pos c2, if_pos (by omega), if_pos (by omega)]
        obtain ⟨m, e1, e2, e3, e4, e5⟩ := tabI (y / 256) (by omega) (by omega)
        obtain ⟨g1, g2⟩ := Hm.bits_lift (a := 8) (c := 256) rfl e2 e4 e5
        refine ⟨m + 8, ?_, by omega, by omega, g1, g2⟩
        rw [e1, w64 (n := (m : Int)) (by omega) (by omega), w64 (n := base + 8) (by omega) (by omega), w64 (by omega) (by omega)]
        congr 1; omega
      · rw [if_neg c2, if_pos (by omega), if_pos (by omega)]
        obtain ⟨m, e1, e2, e3, e4, e5⟩ := tabI y (by omega) (by omega)
        refine ⟨m, ?_, by omega, by omega, e4, e5⟩
        rw [e1, w64 (n := (m : Int)) (by omega) (by omega), w64 (by omega) (by omega)]
        congr 1; omega
  unfold bits_Len64.f
  by_cases c : x ≥ 4294967296
  · rw [if_pos c]
    obtain ⟨m, e1, e2, e3, e4, e5⟩ := low (x / 4294967296) 32 (by omega) (by omega) (by omega) (by omega)
    obtain ⟨g1, g2⟩ := Hm.bits_lift (a := 32) (c := 4294967296) rfl e2 e4 e5
    exact ⟨m + 32, by rw [e1]; first | rfl | (congr 1; omega), by omega, by omega, g1, g2⟩
  · rw [if_neg c]
    obtain ⟨m, e1, e2, e3, e4, e5⟩ := low x 0 h0 (by omega) (by omega) (by omega)
    exact ⟨m, by rw [e1]; first | rfl | (congr 1; omega), e2, by omega, e4, e5⟩
theorem Zeros64_is {x : Int} (k : Nat) (h0 : 0 < x) (h1 : x < 18446744073709551616) (hk : 1 ≤ k) : ∃ s : Nat, bits_LeadingZeros64.f k x = some (s : Int) ∧ s ≤ 63 ∧ 9223372036854775808 ≤ x * 2 ^ s ∧ x * 2 ^ s < 18446744073709551616 := by
  obtain ⟨n, e1, e2, e3, e4, e5⟩ := Len64_is k h0 h1 hk
  refine ⟨64 - n, ?_, by omega, ?_, ?_⟩
  · unfold bits_LeadingZeros64.f
    rw [e1]; simp only [Option.bind_some]
    rw [w64 (by omega) (by omega)]; congr 1; omega
  · have := Int.mul_le_mul_of_nonneg_right e4 (Int.le_of_lt (Hm.pow2_pos (64 - n)))
    rw [← Int.pow_add, show n - 1 + (64 - n) = 63 by omega] at this
    exact this
  · have := Int.mul_lt_mul_of_pos_right e5 (Hm.pow2_pos (64 - n))
    rw [← Int.pow_add, show n + (64 - n) = 64 by omega] at this
    exact this
theorem mask32' {a : Int} (h1 : 0 ≤ a) (h2 : a < 18446744073709551616) : Go.bits .and .u64 a 4294967295 = a % 4294967296 := by
  rw [Go.u64_and a 4294967295 h1 h2 (by omega) (by omega)]
  have : a.toNat &&& (4294967295 : Int).toNat = a.toNat % 4294967296 := Nat.and_two_pow_sub_one_eq_mod a.toNat 32
  rw [this]; omega
theorem or_add {a b : Int} (s : Nat) (ha : 0 ≤ a) (hb : 0 ≤ b) (hs : b < 2 ^ s) (h : a * 2 ^ s + b < 18446744073709551616) : Go.bits .or .u64 (a * 2 ^ s) b = a * 2 ^ s + b := by
  have hp := Hm.pow2_pos s
  have h0 := Int.mul_nonneg ha (Int.le_of_lt hp)
  rw [Go.u64_or _ _ h0 (by omega) hb (by omega)]
  obtain ⟨A, rfl⟩ := Int.eq_ofNat_of_zero_le ha
  obtain ⟨C, rfl⟩ := Int.eq_ofNat_of_zero_le hb
  have e1 : ((A : Int) * 2 ^ s).toNat = A <<< s := by
    rw [Nat.shiftLeft_eq]
    have : ((A : Int) * 2 ^ s) = ((A * 2 ^ s : Nat) : Int) := by rw [Int.natCast_mul, Int.natCast_pow]; rfl
    rw [this]; rfl
  have e2 : C < 2 ^ s := by
    have : ((C : Nat) : Int) < ((2 ^ s : Nat) : Int) := by rw [Int.natCast_pow]; exact hs
    exact Int.ofNat_lt.1 this
  rw [e1, show ((C : Int)).toNat = C from rfl, ← Nat.shiftLeft_add_eq_or_of_lt e2, Nat.shiftLeft_eq, Int.natCast_add, Int.natCast_mul, Int.natCast_pow]
  rfl
theorem div_l1 {v y1 y0 s t Q1 u : Int} (hs : 0 ≤ s) (hv : v = y1 * 4294967296 + y0) (h1 : 2147483648 ≤ y1) (h1' : y1 < 4294967296) (h0 : 0 ≤ y0) (h2 : y0 < 4294967296) (hu0 : 0 ≤ u) (hu : u < v) (ht0 : 0 ≤ t) (ht : t < 4294967296) :
    ∀ (n k : Nat) (q r : Int), 4294967296 ≤ r + n * 2147483648 → n + n + 4 ≤ k → q * y1 + r = u → 0 ≤ r → r < 4294967296 → (u * 4294967296 + t) / v ≤ q → q ≤ 4294967297 →
    bits_Div64.l1 k v s y1 y0 t Q1 r u q = some (IntKind.u64.wrap (IntKind.u64.wrap (Q1 * 4294967296) + (u * 4294967296 + t) / v), shr .u64 (IntKind.u64.wrap (IntKind.u64.wrap (IntKind.u64.wrap (u * 4294967296) + t) - IntKind.u64.wrap ((u * 4294967296 + t) / v * v))) s) := by
  have hvp : 0 < v := by omega
  have hd := Hm.kn_digit hvp hu0 hu ht0 ht
  intro n
  induction n with
  | zero => intro k q r h; omega
  | succ n ih =>
    intro k q r hn hk he hr0 hr hq hq2
    obtain ⟨k, rfl⟩ := some_k (show 0 < k by omega)
    obtain ⟨k, rfl⟩ := some_k (show 0 < k by omega)
    have htest : bits_Div64.l1 (k + 1 + 1) v s y1 y0 t Q1 r u q = bits_Div64.j4 (k + 1) v s y1 y0 t Q1 r u q (decide (q > (u * 4294967296 + t) / v)) := by
      simp only [bits_Div64.l1]
      by_cases c : q ≥ 4294967296
      · rw [if_pos c, decide_eq_true (show q > (u * 4294967296 + t) / v by omega)]
      · rw [if_neg c]
        have hm := Int.mul_le_mul (show q ≤ 4294967295 by omega) (show y0 ≤ 4294967295 by omega) h0 (show (0 : Int) ≤ 4294967295 by omega)
        have hm0 := Int.mul_nonneg (show 0 ≤ q by omega) h0
        congr 1
        rw [decide_eq_decide, u64in (n := q * y0) hm0 (by omega), u64in (n := 4294967296 * r) (by omega) (by omega), u64in (by omega) (by omega), Hm.kn_test he, ← hv, Hm.kn_gt hvp]
    rw [htest]
    simp only [bits_Div64.j4]
    by_cases c : q > (u * 4294967296 + t) / v
    · rw [if_pos (by simpa using c), u64in (n := r + y1) (by omega) (by omega), u64in (n := q - 1) (by omega) (by omega)]
      have he' : (q - 1) * y1 + (r + y1) = u := by rw [Int.sub_mul, Int.one_mul]; omega
      by_cases c2 : r + y1 ≥ 4294967296
      · rw [if_pos c2, if_pos hs]
        have hst := Hm.kn_stop (t := t) (by omega) he' c2 h2 h0 (by omega) (by omega) ht0
        rw [← hv] at hst
        have e : q - 1 = (u * 4294967296 + t) / v := by omega
        rw [e]
      · rw [if_neg c2]
        exact ih k (q - 1) (r + y1) (by omega) (by omega) he' (by omega) (by omega) (by omega) (by omega)
    · rw [if_neg (by simpa using c), if_pos hs]
      have e : q = (u * 4294967296 + t) / v := by omega
      rw [e]
theorem div_l0 {v y1 y0 s t0 t u : Int} (hv : v = y1 * 4294967296 + y0) (h1 : 2147483648 ≤ y1) (h1' : y1 < 4294967296) (h0 : 0 ≤ y0) (h2 : y0 < 4294967296) (hu0 : 0 ≤ u) (hu : u < v) (ht0 : 0 ≤ t) (ht : t < 4294967296) :
    ∀ (n k : Nat) (q r : Int), 4294967296 ≤ r + n * 2147483648 → n + n + 4 ≤ k → q * y1 + r = u → 0 ≤ r → r < 4294967296 → (u * 4294967296 + t) / v ≤ q → q ≤ 4294967297 →
    ∃ k', k ≤ k' + n + n + 2 ∧ bits_Div64.l0 k v s y1 y0 u t t0 q r = bits_Div64.j2 k' v s y1 y0 u t t0 ((u * 4294967296 + t) / v) := by
  have hvp : 0 < v := by omega
  have hd := Hm.kn_digit hvp hu0 hu ht0 ht
  intro n
  induction n with
  | zero => intro k q r h; omega
  | succ n ih =>
    intro k q r hn hk he hr0 hr hq hq2
    obtain ⟨k, rfl⟩ := some_k (show 0 < k by omega)
    obtain ⟨k, rfl⟩ := some_k (show 0 < k by omega)
    have htest : bits_Div64.l0 (k + 1 + 1) v s y1 y0 u t t0 q r = bits_Div64.j1 (k + 1) v s y1 y0 u t t0 q r (decide (q > (u * 4294967296 + t) / v)) := by
      simp only [bits_Div64.l0]
      by_cases c : q ≥ 4294967296
      · rw [if_pos c, decide_eq_true (show q > (u * 4294967296 + t) / v by omega)]
      · rw [if_neg c]
        have hm := Int.mul_le_mul (show q ≤ 4294967295 by omega) (show y0 ≤ 4294967295 by omega) h0 (show (0 : Int) ≤ 4294967295 by omega)
        have hm0 := Int.mul_nonneg (show 0 ≤ q by omega) h0
        congr 1
        rw [decide_eq_decide, u64in (n := q * y0) hm0 (by omega), u64in (n := 4294967296 * r) (by omega) (by omega), u64in (by omega) (by omega), Hm.kn_test he, ← hv, Hm.kn_gt hvp]
    rw [htest]
    simp only [bits_Div64.j1]
    by_cases c : q > (u * 4294967296 + t) / v
    · rw [if_pos (by simpa using c), u64in (n := r + y1) (by omega) (by omega), u64in (n := q - 1) (by omega) (by omega)]
      have he' : (q - 1) * y1 + (r + y1) = u := by rw [Int.sub_mul, Int.one_mul]; omega
      by_cases c2 : r + y1 ≥ 4294967296
      · rw [if_pos c2]
        have hst := Hm.kn_stop (t := t) (by omega) he' c2 h2 h0 (by omega) (by omega) ht0
        rw [← hv] at hst
        have e : q - 1 = (u * 4294967296 + t) / v := by omega
        rw [e]
        exact ⟨k, by omega, rfl⟩
      · rw [if_neg c2]
        obtain ⟨k', g1, g2⟩ := ih k (q - 1) (r + y1) (by omega) (by omega) he' (by omega) (by omega) (by omega) (by omega)
        exact ⟨k', by omega, g2⟩
    · rw [if_neg (by simpa using c)]
      have e : q = (u * 4294967296 + t) / v := by omega
      rw [e]
      exact ⟨k, by omega, rfl⟩
theorem u64sub {a b : Int} (h0 : 0 ≤ a - b) (h1 : a - b < 18446744073709551616) : IntKind.u64.wrap (IntKind.u64.wrap a - IntKind.u64.wrap b) = a - b := by
  rw [u64, u64, u64]; omega
theorem u64addl (a b : Int) : IntKind.u64.wrap (IntKind.u64.wrap a + b) = IntKind.u64.wrap (a + b) := by
  rw [u64, u64, u64]; omega
theorem Div64_is {hi lo y : Int} (k : Nat) (h0 : 0 ≤ hi) (h1 : hi < y) (h2 : y < 18446744073709551616) (h3 : 0 ≤ lo) (h4 : lo < 18446744073709551616) (hk : 40 ≤ k) :
    bits_Div64.f k hi lo y = some ((hi * 18446744073709551616 + lo) / y, (hi * 18446744073709551616 + lo) % y) := by
  unfold bits_Div64.f
  rw [if_neg (by omega), if_neg (by omega)]
  by_cases hz : hi = 0
  · subst hz
    have q0 := Int.ediv_nonneg h3 (show 0 ≤ y by omega)
    have q1 := Int.ediv_le_self y h3
    rw [if_pos rfl, Int.tdiv_eq_ediv_of_nonneg h3, Int.tmod_eq_emod_of_nonneg h3, u64in q0 (by omega)]
    simp
  · rw [if_neg hz]
    obtain ⟨s, e1, e2, e3, e4⟩ := Zeros64_is k (show 0 < y by omega) h2 (by omega)
    rw [e1]; simp only [Option.bind_some]
    rw [u64in (n := (s : Int)) (by omega) (by omega), u64in (n := 64 - (s : Int)) (by omega) (by omega), if_pos (by omega), if_pos (by omega)]
    have hp := Hm.pow2_pos s
    have hp2 := Hm.pow2_pos (64 - s)
    have b64 : (IntKind.u64.bits : Nat) = 64 := rfl
    have sh1 : shl .u64 y (s : Int) = y * 2 ^ s := by
      unfold shl; rw [b64, Int.toNat_natCast, Nat.min_eq_left (by omega), u64in (by omega) e4]
    have hhi : hi * 2 ^ s + 2 ^ s ≤ y * 2 ^ s := by
      have := Int.mul_le_mul_of_nonneg_right (show hi + 1 ≤ y by omega) (Int.le_of_lt hp)
      rw [Int.add_mul, Int.one_mul] at this; exact this
    have hhi0 := Int.mul_nonneg h0 (Int.le_of_lt hp)
    have sh2 : shl .u64 hi (s : Int) = hi * 2 ^ s := by
      unfold shl; rw [b64, Int.toNat_natCast, Nat.min_eq_left (by omega), u64in hhi0 (by omega)]
    have sh3 : shl .u64 lo (s : Int) = lo * 2 ^ s % 18446744073709551616 := by
      unfold shl; rw [b64, Int.toNat_natCast, Nat.min_eq_left (by omega), u64]
    have sh4 : shr .u64 lo (64 - (s : Int)) = lo / 2 ^ (64 - s) := by
      unfold shr; rw [b64, show (64 - (s : Int)).toNat = 64 - s by omega, Nat.min_eq_left (by omega)]
    rw [sh1, sh2, sh3, sh4, ← Hm.kn_above s (by omega)]
    have hab0 := Int.mul_nonneg h3 (Int.le_of_lt hp)
    have hab : lo * 2 ^ s < 18446744073709551616 * 2 ^ s := Int.mul_lt_mul_of_pos_right h4 hp
    have hab2 : lo * 2 ^ s / 18446744073709551616 < 2 ^ s := by rw [Int.ediv_lt_iff_lt_mul (by omega)]; omega
    rw [or_add s h0 (by omega) hab2 (by omega)]
    have eU : (hi * 18446744073709551616 + lo) * 2 ^ s = hi * 2 ^ s * 18446744073709551616 + lo * 2 ^ s := by rw [Int.add_mul, Int.mul_right_comm]
    have ksh := Hm.kn_shift (a := hi * 18446744073709551616 + lo) (y := y) (c := 2 ^ s) hp
    rw [eU] at ksh
    have esr : ∀ z : Int, shr .u64 z (s : Int) = z / 2 ^ s := fun z => by unfold shr; rw [b64, Int.toNat_natCast, Nat.min_eq_left (by omega)]
    clear sh1 sh2 sh3 sh4 eU hp2
    generalize y * 2 ^ s = v at hhi e3 e4 ksh ⊢
    generalize lo * 2 ^ s = L at hab0 hab hab2 ksh ⊢
    generalize hi * 2 ^ s = H at hhi hhi0 ksh ⊢
    generalize (2 : Int) ^ s = p at hp hhi hab hab2 ksh esr ⊢
    obtain ⟨u, hu⟩ : ∃ u, H + L / 18446744073709551616 = u := ⟨_, rfl⟩
    rw [mask32' (a := v) (by omega) (by omega), mask32' (a := L % 18446744073709551616) (by omega) (by omega), hu]
    have huv : u < v := by omega
    have hu0 : 0 ≤ u := by omega
    obtain ⟨t1, ht1⟩ : ∃ t, L % 18446744073709551616 / 4294967296 = t := ⟨_, rfl⟩
    obtain ⟨t0, ht0⟩ : ∃ t, L % 18446744073709551616 % 4294967296 = t := ⟨_, rfl⟩
    rw [ht1, ht0]
    have bt1 : 0 ≤ t1 ∧ t1 < 4294967296 := by omega
    have bt0 : 0 ≤ t0 ∧ t0 < 4294967296 := by omega
    have eW : H * 18446744073709551616 + L = u * 18446744073709551616 + t1 * 4294967296 + t0 := by omega
    rw [eW] at ksh
    clear eW ht1 ht0 hu
    obtain ⟨y1, hy1⟩ : ∃ t, v / 4294967296 = t := ⟨_, rfl⟩
    obtain ⟨y0, hy0⟩ : ∃ t, v % 4294967296 = t := ⟨_, rfl⟩
    rw [hy1, hy0]
    have ev : v = y1 * 4294967296 + y0 := by omega
    have by1 : 2147483648 ≤ y1 ∧ y1 < 4294967296 := by omega
    have by0 : 0 ≤ y0 ∧ y0 < 4294967296 := by omega
    have hvp : 0 < v := by omega
    rw [if_neg (by omega)]
    have guess : ∀ u t : Int, 0 ≤ u → u < v → 0 ≤ t → t < 4294967296 → IntKind.u64.wrap (Int.tdiv u y1) = u / y1 ∧ IntKind.u64.wrap (u - IntKind.u64.wrap (u / y1 * y1)) = u - u / y1 * y1 ∧ (u * 4294967296 + t) / v ≤ u / y1 ∧ u / y1 ≤ 4294967297 ∧ 0 ≤ u - u / y1 * y1 ∧ u - u / y1 * y1 < y1 := by
      intro u t g1 g2 g3 g4
      have f := Hm.kn_first by1.1 by0.2 by0.1 g1 (by omega) g3 g4
      rw [← ev] at f
      have a := Hm.kn_pos (show 0 < y1 by omega) g1
      have hb := Int.mul_nonneg a.1 (show 0 ≤ y1 by omega)
      refine ⟨by rw [Int.tdiv_eq_ediv_of_nonneg g1, u64in a.1 (by omega)], ?_, f.1, f.2.1, f.2.2.1, f.2.2.2⟩
      rw [u64in (n := u / y1 * y1) hb (by omega), u64in f.2.2.1 (by omega)]
    obtain ⟨g1, g2, g3, g4, g5, g6⟩ := guess u t1 hu0 huv bt1.1 bt1.2
    rw [g1, g2]
    have a1 := Hm.kn_pos hvp (show 0 ≤ u * 4294967296 + t1 by omega)
    have d1 := Hm.kn_digit hvp hu0 huv bt1.1 bt1.2
    obtain ⟨k', f1, f2⟩ := div_l0 (s := (s : Int)) (t0 := t0) ev by1.1 by1.2 by0.1 by0.2 hu0 huv bt1.1 bt1.2 2 k (u / y1) (u - u / y1 * y1) (by omega) (by omega) (by omega) g5 (by omega) g3 g4
    rw [f2]
    obtain ⟨k', rfl⟩ := some_k (show 0 < k' by omega)
    simp only [bits_Div64.j2]
    rw [if_neg (by omega), u64addl, u64sub (a := u * 4294967296 + t1) (b := (u * 4294967296 + t1) / v * v) (by omega) (by omega)]
    have two := Hm.kn_two hvp hu0 bt1.1 bt0.1
    simp only at two
    obtain ⟨Q1, hQ1⟩ : ∃ Q, (u * 4294967296 + t1) / v = Q := ⟨_, rfl⟩
    rw [hQ1] at two a1 d1 ⊢
    obtain ⟨r1, hr1⟩ : ∃ r, u * 4294967296 + t1 - Q1 * v = r := ⟨_, rfl⟩
    rw [hr1] at two ⊢
    have br1 : 0 ≤ r1 ∧ r1 < v := by omega
    obtain ⟨i1, i2, i3, i4, i5, i6⟩ := guess r1 t0 br1.1 br1.2 bt0.1 bt0.2
    rw [i1, i2, div_l1 (by omega) ev by1.1 by1.2 by0.1 by0.2 br1.1 br1.2 bt0.1 bt0.2 2 k' (r1 / y1) (r1 - r1 / y1 * y1) (by omega) (by omega) (by omega) i5 (by omega) i3 i4]
    have a0 := Hm.kn_pos hvp (show 0 ≤ r1 * 4294967296 + t0 by omega)
    have d0 := Hm.kn_digit hvp br1.1 br1.2 bt0.1 bt0.2
    rw [u64addl, u64addl, u64sub (a := r1 * 4294967296 + t0) (b := (r1 * 4294967296 + t0) / v * v) (by omega) (by omega), esr, u64in (by omega) (by omega), ← two.1, ← two.2, ksh.1, ksh.2]
/-- The part, and what is left. -/
theorem Div_is {hi lo d : Int} (k : Nat) (h0 : 0 ≤ hi) (h1 : hi < 18446744073709551616) (h2 : 0 < d) (h2' : d < 18446744073709551616) (h3 : 0 ≤ lo) (h4 : lo < 18446744073709551616) (hk : 40 ≤ k) :
    wide_Div.f k hi lo d = some (hi / d, (hi % d * 18446744073709551616 + lo) / d, (hi * 18446744073709551616 + lo) % d, true) := by
  unfold wide_Div.f
  have m0 := Int.emod_nonneg hi (show d ≠ 0 by omega)
  have m1 := Int.emod_lt_of_pos hi h2
  have q0 := Int.ediv_nonneg h0 (show 0 ≤ d by omega)
  have q1 := Int.ediv_le_self d h0
  rw [if_neg (by omega), Int.tmod_eq_emod_of_nonneg h0, Div64_is k m0 m1 h2' h3 h4 hk]
  simp only [Option.bind_some]
  rw [Int.tdiv_eq_ediv_of_nonneg h0, u64in q0 (by omega)]
  have e : (hi % d * 18446744073709551616 + lo) % d = (hi * 18446744073709551616 + lo) % d := by
    rw [Int.emod_def hi d, Int.sub_mul, Int.mul_assoc, Int.mul_comm d, show hi * 18446744073709551616 - hi / d * 18446744073709551616 * d + lo = hi * 18446744073709551616 + lo + -(hi / d * 18446744073709551616) * d by rw [Int.neg_mul]; omega, Int.add_mul_emod_self_right]
  rw [e]

theorem textGo_is : ∀ (m k : Nat) (hi lo : Int) (out : List Int), 0 ≤ hi → hi < 18446744073709551616 → 0 ≤ lo → lo < 18446744073709551616 → (hi * 18446744073709551616 + lo).toNat < 10 ^ m → 1 ≤ m → m + 45 ≤ k → out.length + m ≤ 1000 →
    textGo k hi lo out = some (out ++ Hm.rdig (hi * 18446744073709551616 + lo).toNat) := by
  intro m
  induction m with
  | zero => intro k hi lo out _ _ _ _ _ h; omega
  | succ m ih =>
    intro k hi lo out h0 h1 h2 h3 hn _ hk ho
    obtain ⟨k, rfl⟩ := some_k (show 0 < k by omega)
    unfold textGo
    rw [Div_is k h0 h1 (show (0 : Int) < 10 by omega) (by omega) h2 h3 (by omega)]
    simp only [Option.bind_some]
    rw [if_pos (by omega), Cmp_is k (by omega) (by omega) (by omega) (by omega) (by omega)]
    simp only [Option.bind_some]
    obtain ⟨n, hnn⟩ : ∃ n : Nat, hi * 18446744073709551616 + lo = (n : Int) := ⟨(hi * 18446744073709551616 + lo).toNat, by omega⟩
    have eq : hi / 10 * 18446744073709551616 + (hi % 10 * 18446744073709551616 + lo) / 10 = ((n / 10 : Nat) : Int) := by omega
    have ed : digOf ((hi * 18446744073709551616 + lo) % 10) = ((48 + n % 10 : Nat) : Int) := by unfold digOf; omega
    rw [ed, eq]
    rw [hnn] at hn
    simp only [Int.toNat_natCast] at hn
    by_cases hs : n < 10
    · rw [if_neg (by unfold sgn3; rw [if_neg (by omega)]; split <;> omega), hnn, Int.toNat_natCast, Hm.rdig_lo hs]
      rw [show 48 + n % 10 = 48 + n by omega]
    · have hm : 1 ≤ m := by
        by_cases h1 : m = 0
        · subst h1; simp at hn; omega
        · omega
      rw [if_pos (by unfold sgn3; rw [if_neg (by omega), if_pos (by omega)]; omega)]
      rw [ih k _ _ (out ++ [((48 + n % 10 : Nat) : Int)]) (by omega) (by omega) (by omega) (by omega) (by rw [eq, Int.toNat_natCast]; rw [Nat.pow_succ] at hn; omega) hm (by omega) (by simp; omega)]
      rw [eq, Int.toNat_natCast, hnn, Int.toNat_natCast, Hm.rdig_hi hs]; simp
theorem rev_loop : ∀ (n : Nat) (pre mid post : List Int) (k : Nat), mid.length ≤ n → n + 1 ≤ k → (pre ++ mid ++ post).length ≤ 1000000 →
    slices_Reverse__byte_byte.l0 k (pre ++ mid ++ post) (pre.length : Int) ((pre.length : Int) + (mid.length : Int) - 1) = some (pre ++ mid.reverse ++ post) := by
  intro n
  induction n using Nat.strongRecOn with
  | _ n ih =>
    intro pre mid post k hn hk hlen
    obtain ⟨k, rfl⟩ := some_k (show 0 < k by omega)
    simp only [slices_Reverse__byte_byte.l0]
    by_cases h2 : mid.length ≤ 1
    · rw [if_neg (by omega)]
      match mid, h2 with
      | [], _ => rfl
      | [x], _ => rfl
    · obtain ⟨x, m, y, rfl⟩ : ∃ x m y, mid = x :: (m ++ [y]) := by
        match mid, h2 with
        | x :: t, h2 =>
          have ht : t ≠ [] := by intro e; rw [e] at h2; simp at h2
          exact ⟨x, t.dropLast, t.getLast ht, by rw [List.dropLast_concat_getLast]⟩
      simp only [List.length_cons, List.length_append, List.length_nil] at hn hlen ⊢
      have e1 : rd (pre ++ x :: (m ++ [y]) ++ post) (pre.length : Int) = x := by simp [rd]
      have e2 : rd (pre ++ x :: (m ++ [y]) ++ post) ((pre.length : Int) + ((m.length + (0 + 1) + 1 : Nat) : Int) - 1) = y := by
        have : ((pre.length : Int) + ((m.length + (0 + 1) + 1 : Nat) : Int) - 1).toNat = pre.length + (m.length + 1) := by omega
        unfold rd; rw [this]
        rw [show pre ++ x :: (m ++ [y]) ++ post = (pre ++ x :: m) ++ y :: post by simp, show pre.length + (m.length + 1) = (pre ++ x :: m).length by simp]
        simp
      rw [if_pos (by omega), if_pos (by omega), if_pos (by simp; omega), if_pos (by omega), if_pos (by simp; omega), e1, e2]
      have e3 : ((pre ++ x :: (m ++ [y]) ++ post).set ((pre.length : Int)).toNat y).set (((pre.length : Int) + ((m.length + (0 + 1) + 1 : Nat) : Int) - 1)).toNat x = (pre ++ [y]) ++ m ++ (x :: post) := by
        rw [show (((pre.length : Int) + ((m.length + (0 + 1) + 1 : Nat) : Int) - 1)).toNat = pre.length + (m.length + 1) by omega, Int.toNat_natCast]
        rw [show pre ++ x :: (m ++ [y]) ++ post = pre ++ x :: (m ++ y :: post) by simp]
        rw [List.set_append_right _ _ (Nat.le_refl _), Nat.sub_self, List.set_cons_zero]
        rw [show pre ++ y :: (m ++ y :: post) = (pre ++ y :: m) ++ y :: post by simp, show pre.length + (m.length + 1) = (pre ++ y :: m).length by simp]
        rw [List.set_append_right _ _ (Nat.le_refl _), Nat.sub_self, List.set_cons_zero]
        simp
      rw [e3, w64 (by omega) (by omega), w64 (by omega) (by omega)]
      have hz := ih (n - 1) (by omega) (pre ++ [y]) m (x :: post) k (by omega) (by omega) (by simp; omega)
      simp only [List.length_append, List.length_cons, List.length_nil] at hz
      rw [show (pre.length : Int) + 1 = ((pre.length + (0 + 1) : Nat) : Int) by omega, show (pre.length : Int) + ((m.length + (0 + 1) + 1 : Nat) : Int) - 1 - 1 = ((pre.length + (0 + 1) : Nat) : Int) + (m.length : Int) - 1 by omega, hz]
      simp
theorem Reverse_is (l : List Int) (k : Nat) (hl : l.length ≤ 1000000) (hk : l.length < k) : slices_Reverse__byte_byte.f k l = some l.reverse := by
  unfold slices_Reverse__byte_byte.f
  have := rev_loop l.length [] l [] k (Nat.le_refl _) (by omega) (by simpa using hl)
  simp only [List.nil_append, List.append_nil, List.length_nil] at this
  rw [w64 (by omega) (by omega)]
  rw [show ((0 : Nat) : Int) + (l.length : Int) - 1 = (l.length : Int) - 1 by omega] at this
  exact this
theorem Text_is (k : Nat) (hi lo : Int) (h0 : 0 ≤ hi) (h1 : hi < 18446744073709551616) (h2 : 0 ≤ lo) (h3 : lo < 18446744073709551616) (hk : 100 ≤ k) :
    ∃ s : ByteArray, wide_Text.f k hi lo = some s ∧ s.toList = Hm.dgs (hi * 18446744073709551616 + lo).toNat ∧ s.size = (Hm.dgs (hi * 18446744073709551616 + lo).toNat).length ∧ s.size ≤ 39 := by
  have hn : (hi * 18446744073709551616 + lo).toNat < 10 ^ 39 := by
    have : (10 : Nat) ^ 39 = 1000000000000000000000000000000000000000 := by decide
    omega
  have hlen := Hm.rdig_len hn (by omega)
  have hl2 : (Hm.dgs (hi * 18446744073709551616 + lo).toNat).length = (Hm.rdig (hi * 18446744073709551616 + lo).toNat).length := by rw [← Hm.rdig_rev]; simp
  refine ⟨strOfNums (Hm.rdig (hi * 18446744073709551616 + lo).toNat).reverse, ?_, ?_, ?_, ?_⟩
  · unfold wide_Text.f
    rw [textGo_is 39 k hi lo [] h0 h1 h2 h3 hn (by omega) (by omega) (by simp)]
    simp only [Option.bind_some, List.nil_append]
    rw [Reverse_is _ k (by omega) (by omega)]; rfl
  · unfold strOfNums
    rw [ByteArray.toList_mk, Hm.rdig_rev]
  · rw [strOfNums_size, List.length_reverse, hl2]
  · rw [strOfNums_size, List.length_reverse]; exact hlen

theorem awake_is : ∀ k, 120 ≤ k → horariumlaw01_awake.f k = some true := by
  have h : horariumlaw01_awake.f 120 = some true := by decide +kernel
  intro k hk
  exact at_rounds (horariumlaw01_awake.mono) hk h

theorem Text_eq (k : Nat) (hi lo : Int) (h0 : 0 ≤ hi) (h1 : hi < 18446744073709551616) (h2 : 0 ≤ lo) (h3 : lo < 18446744073709551616) (hk : 100 ≤ k) :
    wide_Text.f k hi lo = some (strOfNums (Hm.rdig (hi * 18446744073709551616 + lo).toNat).reverse) := by
  have hn : (hi * 18446744073709551616 + lo).toNat < 10 ^ 39 := by
    have : (10 : Nat) ^ 39 = 1000000000000000000000000000000000000000 := by decide
    omega
  have hlen := Hm.rdig_len hn (by omega)
  unfold wide_Text.f
  rw [textGo_is 39 k hi lo [] h0 h1 h2 h3 hn (by omega) (by omega) (by simp)]
  simp only [Option.bind_some, List.nil_append]
  rw [Reverse_is _ k (by omega) (by omega)]; rfl
theorem WideParts : horariumlaw01_WideParts.Pure := by
  intro a0 a1 d n0 n1 n2 n3 ha0 ha1 hd h0 h1 h2 h3
  have g1 := wf_u64 ha0
  have g2 := wf_u64 ha1
  have g3 := wf_u64 hd
  have g4 := wf_u64 h0
  have g5 := wf_u64 h1
  have g6 := wf_u64 h2
  have g7 := wf_u64 h3
  refine ⟨120, ?_⟩
  unfold horariumlaw01_WideParts.f
  have e1 : wide_Div.f 120 a0 a1 d = horariumref01_Div.f a0 a1 d := by
    unfold horariumref01_Div.f
    rw [if_pos ⟨g1.1, g1.2, g2.1, g2.2, g3.1, g3.2⟩]
    by_cases c : d = 0
    · subst c
      rw [if_pos rfl]
      unfold wide_Div.f
      rw [if_pos rfl]
    · rw [if_neg c, Div_is 120 g1.1 g1.2 (by omega) g3.2 g2.1 g2.2 (by omega)]
      have hdm := Int.mul_ediv_add_emod a0 d
      have r0 := Int.emod_nonneg a0 c
      have r1 := Int.emod_lt_of_pos a0 (show 0 < d by omega)
      have q0 := Int.ediv_nonneg g1.1 g3.1
      obtain ⟨Q, hQ⟩ : ∃ Q, a0 / d = Q := ⟨_, rfl⟩
      obtain ⟨R, hR⟩ : ∃ R, a0 % d = R := ⟨_, rfl⟩
      rw [hQ, hR] at hdm
      rw [hQ] at q0
      rw [hR] at r0 r1
      rw [hQ, hR]
      have e : (a0 * 18446744073709551616 + a1) / d = Q * 18446744073709551616 + (R * 18446744073709551616 + a1) / d := by
        have : a0 * 18446744073709551616 + a1 = (R * 18446744073709551616 + a1) + (Q * 18446744073709551616) * d := by
          rw [← hdm, Int.mul_right_comm, Int.mul_comm Q d]
          have h9 : (d * Q + R) * 18446744073709551616 = d * Q * 18446744073709551616 + R * 18446744073709551616 := Int.add_mul _ _ _
          omega
        rw [this, Int.add_mul_ediv_right _ _ c]
        omega
      have b0 : 0 ≤ (R * 18446744073709551616 + a1) / d := Int.ediv_nonneg (by omega) g3.1
      have b1 : (R * 18446744073709551616 + a1) / d < 18446744073709551616 := by
        apply Int.ediv_lt_of_lt_mul (by omega)
        have : (R + 1) * 18446744073709551616 ≤ d * 18446744073709551616 := Int.mul_le_mul_of_nonneg_right (by omega) (by omega)
        rw [Int.mul_comm 18446744073709551616 d]
        omega
      rw [e]
      congr 1
      refine Prod.ext ?_ (Prod.ext ?_ rfl) <;> simp only <;> omega
  have e2 : ∃ r1 r2 r3 : Int, ∃ r4 : Bool, horariumref01_Div.f a0 a1 d = some (r1, r2, r3, r4) := by
    unfold horariumref01_Div.f
    rw [if_pos ⟨g1.1, g1.2, g2.1, g2.2, g3.1, g3.2⟩]
    exact ⟨_, _, _, _, rfl⟩
  have e3 : horariumref01_Text.f a0 a1 = some (strOfNums (Hm.rdig (a0 * 18446744073709551616 + a1).toNat).reverse) := by
    unfold horariumref01_Text.f
    rw [if_pos ⟨g1.1, g1.2, g2.1, g2.2⟩]
  have e4 : horariumref01_Less.f n0 n1 n2 n3 = some (decide (n1 ≠ 0 ∧ n3 ≠ 0 ∧ n0 * n3 < n2 * n1)) := by
    unfold horariumref01_Less.f
    rw [if_pos ⟨g4.1, g4.2, g5.1, g5.2, g6.1, g6.2, g7.1, g7.2⟩]
  obtain ⟨r1, r2, r3, r4, e2⟩ := e2
  rw [awake_is 120 (by omega), e1, e2, Text_eq 120 a0 a1 g1.1 g1.2 g2.1 g2.2 (by omega), e3, e4, Less_is 120 g4.1 g4.2 g5.1 g5.2 g6.1 g6.2 g7.1 g7.2 (by omega)]
  simp
end Go.Proofs.Ytbkjoojfpmokaaa.Pure
