/- Plain facts: numbers of 256 bits, place by place: sums, differences, shifts, products, order. -/

namespace Hb
abbrev B := BitVec 256
def bi (b : Bool) : Int := if b then 1 else 0
theorem plus_bit (x y : B) {i : Nat} (hi : i < 256) : (x + y).getLsbD i = decide ((bi (x.getLsbD i) + bi (y.getLsbD i) + bi (BitVec.carry i x y false)) % 2 = 1) := by
  rw [BitVec.getLsbD_add hi]
  generalize x.getLsbD i = a; generalize y.getLsbD i = b; generalize BitVec.carry i x y false = c
  cases a <;> cases b <;> cases c <;> rfl
theorem plus_carry (x y : B) (i : Nat) : BitVec.carry (i + 1) x y false = decide (2 ≤ bi (x.getLsbD i) + bi (y.getLsbD i) + bi (BitVec.carry i x y false)) := by
  rw [BitVec.carry_succ]
  generalize x.getLsbD i = a; generalize y.getLsbD i = b; generalize BitVec.carry i x y false = c
  cases a <;> cases b <;> cases c <;> rfl
theorem carry_zero (x y : B) : BitVec.carry 0 x y false = false := by simp [BitVec.carry]; omega
/-- What is borrowed ahead of a place. -/
def bor (i : Nat) (x y : B) : Bool := !BitVec.carry i x (~~~y) true
theorem bor_zero (x y : B) : bor 0 x y = false := by simp [bor, BitVec.carry]
theorem sub_carry (x y : B) : x - y = x + ~~~y + BitVec.setWidth 256 (BitVec.ofBool true) := by
  rw [BitVec.sub_eq_add_neg, BitVec.neg_eq_not_add, ← BitVec.add_assoc]; rfl
theorem minus_bit (x y : B) {i : Nat} (hi : i < 256) : (x - y).getLsbD i = (decide (bi (x.getLsbD i) - bi (y.getLsbD i) - bi (bor i x y) = 1) || decide (bi (x.getLsbD i) - bi (y.getLsbD i) - bi (bor i x y) = -1)) := by
  rw [sub_carry, BitVec.getLsbD_add_add_bool hi]
  have e : (~~~y).getLsbD i = !y.getLsbD i := by rw [BitVec.getLsbD_not]; simp [hi]
  unfold bor
  rw [e]
  generalize x.getLsbD i = a; generalize y.getLsbD i = b; generalize BitVec.carry i x (~~~y) true = c
  cases a <;> cases b <;> cases c <;> rfl
theorem minus_bor (x y : B) {i : Nat} (hi : i < 256) : bor (i + 1) x y = decide (bi (x.getLsbD i) - bi (y.getLsbD i) - bi (bor i x y) < 0) := by
  unfold bor
  rw [BitVec.carry_succ]
  have e : (~~~y).getLsbD i = !y.getLsbD i := by rw [BitVec.getLsbD_not]; simp [hi]
  rw [e]
  generalize x.getLsbD i = a; generalize y.getLsbD i = b; generalize BitVec.carry i x (~~~y) true = c
  cases a <;> cases b <;> cases c <;> rfl
/-- The greatest place at which two numbers differ tells. -/
theorem lt_of_bit {x y : B} {i : Nat} (hx : x.getLsbD i = false) (hy : y.getLsbD i = true) (h : ∀ j, i < j → j < 256 → x.getLsbD j = y.getLsbD j) : x.toNat < y.toNat := by
  have h1 : x.toNat / 2 ^ (i + 1) = y.toNat / 2 ^ (i + 1) := by
    apply Nat.eq_of_testBit_eq
    intro j
    rw [Nat.testBit_div_two_pow, Nat.testBit_div_two_pow]
    by_cases h2 : j + (i + 1) < 256
    · exact h (j + (i + 1)) (by omega) h2
    · show x.getLsbD (j + (i + 1)) = y.getLsbD (j + (i + 1))
      rw [BitVec.getLsbD_of_ge x _ (by omega), BitVec.getLsbD_of_ge y _ (by omega)]
  have hx2 : x.toNat / 2 ^ i % 2 = 0 := by
    have e : x.toNat.testBit i = false := hx
    rw [Nat.testBit_eq_decide_div_mod_eq] at e
    have := of_decide_eq_false e
    omega
  have hy2 : y.toNat / 2 ^ i % 2 = 1 := by
    have e : y.toNat.testBit i = true := hy
    rw [Nat.testBit_eq_decide_div_mod_eq] at e
    exact of_decide_eq_true e
  rw [Nat.pow_succ, ← Nat.div_div_eq_div_mul, ← Nat.div_div_eq_div_mul] at h1
  rcases Nat.lt_or_ge x.toNat y.toNat with hlt | hge
  · exact hlt
  · have := Nat.div_le_div_right (c := 2 ^ i) hge
    omega
theorem eq_of_bits {x y : B} (h : ∀ j, j < 256 → x.getLsbD j = y.getLsbD j) : x = y := BitVec.eq_of_getLsbD_eq (fun i hi => h i hi)
/-- A shift, place by place. -/
theorem shift_bit (x : B) (k : Nat) {i : Nat} (hi : i < 256) : (x <<< k).getLsbD i = (!decide (i < k) && x.getLsbD (i - k)) := by
  rw [BitVec.getLsbD_shiftLeft]; simp [hi]
/-- What the product has after so many places of the second number. -/
def part (x y : B) : Nat → B
  | 0 => 0
  | j + 1 => if y.getLsbD j then part x y j + x <<< j else part x y j
theorem part_is (x y : B) (j : Nat) : part x y j = x * BitVec.ofNat 256 (y.toNat % 2 ^ j) := by
  induction j with
  | zero => simp [part, Nat.mod_one]
  | succ j ih =>
    have e : y.toNat % 2 ^ (j + 1) = y.toNat % 2 ^ j + 2 ^ j * (y.getLsbD j).toNat := by
      have : y.getLsbD j = y.toNat.testBit j := rfl
      rw [this, Nat.mod_pow_succ, Nat.testBit_eq_decide_div_mod_eq]
      rcases Nat.mod_two_eq_zero_or_one (y.toNat / 2 ^ j) with h | h <;> simp [h]
    rw [part, ih, e]
    by_cases h : y.getLsbD j = true
    · rw [if_pos h, h, BitVec.ofNat_add, BitVec.mul_add]
      congr 1
      apply BitVec.eq_of_toNat_eq
      simp [BitVec.toNat_mul, BitVec.toNat_shiftLeft, Nat.shiftLeft_eq]
    · have h' : y.getLsbD j = false := by simpa using h
      simp [h']
/-- Two numbers of 64 bits as one. -/
def num (hi lo : Nat) : B := BitVec.ofNat 256 (hi * 18446744073709551616 + lo)
theorem num_toNat {hi lo : Nat} (hh : hi < 18446744073709551616) (hl : lo < 18446744073709551616) : (num hi lo).toNat = hi * 18446744073709551616 + lo := by
  unfold num; rw [BitVec.toNat_ofNat]; apply Nat.mod_eq_of_lt; omega
/-- Of two numbers the places told so far. -/
def ofB (hi lo j : Nat) : Nat → Bool := fun i => (decide (i < j) && lo.testBit i) || (decide (64 ≤ i ∧ i < 64 + j) && hi.testBit (i - 64))
theorem ofB_zero (hi lo : Nat) : ofB hi lo 0 = fun _ => false := by
  funext i
  unfold ofB
  have h : ¬ (64 ≤ i ∧ i < 64 + 0) := by omega
  simp [h]
theorem ofB_succ (hi lo : Nat) {j : Nat} (hj : j < 64) : (fun i => if i = 64 + j then hi.testBit j else if i = j then lo.testBit j else ofB hi lo j i) = ofB hi lo (j + 1) := by
  funext i
  unfold ofB
  by_cases h1 : i = 64 + j
  · subst h1
    have e1 : ¬ (64 + j < j + 1) := by omega
    have e2 : 64 ≤ 64 + j ∧ 64 + j < 64 + (j + 1) := by omega
    have e3 : 64 + j - 64 = j := by omega
    simp [e1, e3]
  · rw [if_neg h1]
    by_cases h2 : i = j
    · subst h2
      have e1 : i < i + 1 := by omega
      have e2 : ¬ (64 ≤ i ∧ i < 64 + (i + 1)) := by omega
      simp [e2]
    · rw [if_neg h2]
      have e1 : (i < j) ↔ (i < j + 1) := by omega
      have e2 : (64 ≤ i ∧ i < 64 + j) ↔ (64 ≤ i ∧ i < 64 + (j + 1)) := by omega
      rw [decide_eq_decide.2 e1, decide_eq_decide.2 e2]
theorem ofB_all {hi lo : Nat} (hh : hi < 18446744073709551616) (hl : lo < 18446744073709551616) : ofB hi lo 64 = (num hi lo).getLsbD := by
  funext i
  show _ = (num hi lo).toNat.testBit i
  rw [num_toNat hh hl, show hi * 18446744073709551616 + lo = 2 ^ 64 * hi + lo by omega, Nat.testBit_two_pow_mul_add hi (show lo < 2 ^ 64 by omega)]
  unfold ofB
  by_cases h : i < 64
  · have e : ¬ (64 ≤ i ∧ i < 64 + 64) := by omega
    simp [h, e]
  · simp only [h, decide_false, Bool.false_and, Bool.false_or, if_false]
    by_cases h2 : i < 128
    · have e : 64 ≤ i ∧ i < 64 + 64 := by omega
      simp [e]
    · have e : ¬ (64 ≤ i ∧ i < 64 + 64) := by omega
      rw [decide_eq_false e, Bool.false_and, Nat.testBit_lt_two_pow]
      exact Nat.lt_of_lt_of_le (show hi < 2 ^ 64 by omega) (Nat.pow_le_pow_right (by omega) (by omega))
theorem bit_is (n j : Nat) : (n / 2 ^ j % 2 == 1) = n.testBit j := by rw [Nat.testBit_eq_decide_div_mod_eq]; rfl
/-- What the lower and the upper number have after so many places. -/
def loB (x : B) (j : Nat) : Nat := x.toNat % 2 ^ min j 64
def hiB (x : B) (j : Nat) : Nat := x.toNat / 18446744073709551616 % 2 ^ min (j - 64) 64
theorem loB_zero (x : B) : loB x 0 = 0 := by simp [loB, Nat.mod_one]
theorem hiB_zero (x : B) : hiB x 0 = 0 := by simp [hiB, Nat.mod_one]
theorem loB_lt (x : B) (j : Nat) : loB x j < 18446744073709551616 := Nat.lt_of_lt_of_le (Nat.mod_lt _ (Nat.pow_pos (by omega))) (Nat.pow_le_pow_right (n := 2) (by omega) (show min j 64 ≤ 64 by omega))
theorem hiB_lt (x : B) (j : Nat) : hiB x j < 18446744073709551616 := Nat.lt_of_lt_of_le (Nat.mod_lt _ (Nat.pow_pos (by omega))) (Nat.pow_le_pow_right (n := 2) (by omega) (show min (j - 64) 64 ≤ 64 by omega))
theorem mod_next (n j : Nat) : n % 2 ^ (j + 1) = n % 2 ^ j + 2 ^ j * (n.testBit j).toNat := by
  rw [Nat.mod_pow_succ, Nat.testBit_eq_decide_div_mod_eq]
  rcases Nat.mod_two_eq_zero_or_one (n / 2 ^ j) with h | h <;> simp [h]
theorem mod_or {n j : Nat} (h : n.testBit j = true) : n % 2 ^ j ||| 2 ^ j = n % 2 ^ (j + 1) := by
  rw [mod_next, h, Nat.or_comm]
  have := Nat.two_pow_add_eq_or_of_lt (show n % 2 ^ j < 2 ^ j from Nat.mod_lt _ (Nat.pow_pos (by omega))) 1
  rw [Nat.mul_one] at this
  rw [← this]; simp [Nat.add_comm]
theorem mod_same {n j : Nat} (h : n.testBit j = false) : n % 2 ^ j = n % 2 ^ (j + 1) := by rw [mod_next, h]; simp
theorem loB_set {x : B} {j : Nat} (hj : j < 64) (h : x.getLsbD j = true) : loB x j ||| 2 ^ j = loB x (j + 1) := by
  unfold loB
  rw [Nat.min_eq_left (by omega), Nat.min_eq_left (by omega)]
  exact mod_or h
theorem loB_clr {x : B} {j : Nat} (h : x.getLsbD j = false) : loB x j = loB x (j + 1) := by
  unfold loB
  by_cases hj : j < 64
  · rw [Nat.min_eq_left (by omega), Nat.min_eq_left (by omega)]
    exact mod_same h
  · rw [Nat.min_eq_right (by omega), Nat.min_eq_right (by omega)]
theorem loB_high (x : B) {j : Nat} (hj : 64 ≤ j) : loB x j = loB x (j + 1) := by
  unfold loB
  rw [Nat.min_eq_right (by omega), Nat.min_eq_right (by omega)]
theorem hi_bit (x : B) {j : Nat} (hj : 64 ≤ j) : (x.toNat / 18446744073709551616).testBit (j - 64) = x.getLsbD j := by
  rw [show 18446744073709551616 = 2 ^ 64 by rfl, Nat.testBit_div_two_pow, show j - 64 + 64 = j by omega]; rfl
theorem hiB_set {x : B} {j : Nat} (hj : 64 ≤ j) (hj2 : j < 128) (h : x.getLsbD j = true) : hiB x j ||| 2 ^ (j - 64) = hiB x (j + 1) := by
  unfold hiB
  rw [Nat.min_eq_left (by omega), Nat.min_eq_left (by omega), show j + 1 - 64 = j - 64 + 1 by omega]
  exact mod_or (by rw [hi_bit x hj]; exact h)
theorem hiB_clr {x : B} {j : Nat} (h : x.getLsbD j = false) : hiB x j = hiB x (j + 1) := by
  unfold hiB
  by_cases hj : 64 ≤ j
  · by_cases hj2 : j < 128
    · rw [Nat.min_eq_left (by omega), Nat.min_eq_left (by omega), show j + 1 - 64 = j - 64 + 1 by omega]
      exact mod_same (by rw [hi_bit x hj]; exact h)
    · rw [Nat.min_eq_right (by omega), Nat.min_eq_right (by omega)]
  · rw [show j + 1 - 64 = j - 64 by omega]
theorem hiB_low (x : B) {j : Nat} (hj : j < 64) : hiB x j = hiB x (j + 1) := by
  unfold hiB
  rw [show j + 1 - 64 = j - 64 by omega]
theorem loB_all (x : B) : loB x 256 = x.toNat % 18446744073709551616 := rfl
/-- Bits of 128 and more there are none. -/
theorem small_of {x : B} (h : ∀ m, 128 ≤ m → m < 256 → x.getLsbD m = false) : x.toNat < 2 ^ 128 := by
  apply Nat.lt_pow_two_of_testBit
  intro m hm
  by_cases h2 : m < 256
  · exact h m hm h2
  · show x.getLsbD m = false
    exact BitVec.getLsbD_of_ge x m (by omega)
theorem hiB_all {x : B} (h : x.toNat < 2 ^ 128) : hiB x 256 = x.toNat / 18446744073709551616 := by
  unfold hiB
  apply Nat.mod_eq_of_lt
  rw [Nat.div_lt_iff_lt_mul (by omega)]; exact h
theorem big_of {x : B} {m : Nat} (hm : 128 ≤ m) (h : x.getLsbD m = true) : ¬ x.toNat < 2 ^ 128 := by
  intro hl
  have : x.toNat.testBit m = false := Nat.testBit_lt_two_pow (Nat.lt_of_lt_of_le hl (Nat.pow_le_pow_right (by omega) hm))
  have h' : x.toNat.testBit m = true := h
  rw [this] at h'; cases h'
/-- A number back: its upper and its lower half; false: it needs more than 128 bits. -/
def back (x : B) : Nat × Nat × Bool := if x.toNat < 2 ^ 128 then (x.toNat / 18446744073709551616, x.toNat % 18446744073709551616, true) else (0, 0, false)
theorem part_num {a b : Nat} (ha : a < 18446744073709551616) (hb : b < 18446744073709551616) : (part (num 0 a) (num 0 b) 128).toNat = a * b := by
  rw [part_is, BitVec.toNat_mul, num_toNat (by omega) ha, num_toNat (by omega) hb, BitVec.toNat_ofNat]
  have h1 : (0 * 18446744073709551616 + b) % 2 ^ 128 = b := by rw [Nat.zero_mul, Nat.zero_add]; exact Nat.mod_eq_of_lt (Nat.lt_trans hb (by decide))
  have h2 : b % 2 ^ 256 = b := Nat.mod_eq_of_lt (Nat.lt_trans hb (by decide))
  rw [h1, h2, Nat.zero_mul, Nat.zero_add]
  apply Nat.mod_eq_of_lt
  have := Nat.mul_lt_mul'' ha hb
  exact Nat.lt_trans this (by decide)
end Hb
